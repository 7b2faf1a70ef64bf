/- What is missing; the last one. -/
import Derived.Test.YthbhjnmkbmmcnaaGtO
namespace Go.Proofs.Ythbhjnmkbmmcnaa
open Go.RowKit Go.IntWalk
set_option linter.unusedVariables false
set_option linter.unusedSimpArgs false
set_option linter.unusedSectionVars false
set_option maxRecDepth 100000

namespace Gt
/-- The missing distances below one. -/
def miss (D : List Nat) (t : Nat) : List Nat := (List.range t).filter fun d => decide (0 < d) && !D.contains d
/-- Behind the i-th one. -/
def tp (D : List Nat) (i : Nat) : Nat := if i = 0 then 1 else D.getD (i - 1) 0 + 1
/-- The last one. -/
def last (D : List Nat) : Nat := D.getD (D.length - 1) 0
theorem miss_one (D : List Nat) : miss D 1 = [] := by simp [miss, List.range_succ]
theorem miss_next (D : List Nat) (t : Nat) (h0 : 0 < t) : miss D (t + 1) = if t ∈ D then miss D t else miss D t ++ [t] := by
  unfold miss
  rw [List.range_succ, List.filter_append]
  by_cases h : t ∈ D
  · rw [if_pos h]; simp [h]
  · rw [if_neg h]; simp [h, h0]
theorem miss_mem {D : List Nat} {t d : Nat} : d ∈ miss D t ↔ d < t ∧ 0 < d ∧ d ∉ D := by
  unfold miss
  simp [List.mem_filter]
theorem miss_up (D : List Nat) (t : Nat) : (miss D t).Pairwise (· < ·) := List.pairwise_lt_range.filter _
theorem miss_len (D : List Nat) (t : Nat) : (miss D t).length ≤ t := by
  have := List.length_filter_le (fun d => decide (0 < d) && !D.contains d) (List.range t)
  rw [List.length_range] at this
  exact this
theorem tp_le {D : List Nat} (h : Ok D) {i d : Nat} (hd : D[i]? = some d) : tp D i ≤ d := by
  unfold tp
  have h2 := h.lo d (List.mem_of_getElem? hd)
  split
  · omega
  · obtain ⟨hi, e⟩ := List.getElem?_eq_some_iff.1 hd
    have := List.pairwise_iff_getElem.1 h.up (i - 1) i (by omega) hi (by omega)
    rw [List.getD_eq_getElem?_getD, List.getElem?_eq_getElem (by omega)]
    simp only [Option.getD_some]
    omega
theorem tp_next {D : List Nat} {i d : Nat} (hd : D[i]? = some d) : tp D (i + 1) = d + 1 := by
  unfold tp
  rw [if_neg (by omega), Nat.add_sub_cancel, List.getD_eq_getElem?_getD, hd]; rfl
theorem tp_not {D : List Nat} (h : Ok D) {i d t : Nat} (hd : D[i]? = some d) (h1 : tp D i ≤ t) (h2 : t < d) : t ∉ D := fun hm => by
  obtain ⟨j, hj, e⟩ := List.getElem_of_mem hm
  obtain ⟨hi, e2⟩ := List.getElem?_eq_some_iff.1 hd
  rcases Nat.lt_trichotomy j i with h3 | h3 | h3
  · have h4 : D[j] ≤ D.getD (i - 1) 0 := by
      rw [List.getD_eq_getElem?_getD, List.getElem?_eq_getElem (by omega)]
      simp only [Option.getD_some]
      rcases Nat.lt_or_ge j (i - 1) with h5 | h5
      · exact Nat.le_of_lt (List.pairwise_iff_getElem.1 h.up j (i - 1) hj (by omega) h5)
      · have : j = i - 1 := by omega
        subst this
        exact Nat.le_refl _
    unfold tp at h1
    rw [if_neg (by omega)] at h1
    omega
  · subst h3; omega
  · have := List.pairwise_iff_getElem.1 h.up i j hi hj h3
    omega
theorem tp_all (D : List Nat) : tp D D.length = last D + 1 := by
  unfold tp last
  split
  · rename_i h
    rw [h, List.getD_eq_getElem?_getD, List.getElem?_eq_none (by omega)]; rfl
  · rfl
theorem last_le {D : List Nat} (h : Ok D) : ∀ d ∈ D, d ≤ last D := fun d hd => by
  obtain ⟨i, hi, rfl⟩ := List.getElem_of_mem hd
  unfold last
  rw [List.getD_eq_getElem?_getD, List.getElem?_eq_getElem (by omega)]
  simp only [Option.getD_some]
  rcases Nat.lt_or_ge i (D.length - 1) with h5 | h5
  · exact Nat.le_of_lt (List.pairwise_iff_getElem.1 h.up i _ hi (by omega) h5)
  · have : i = D.length - 1 := by omega
    subst this
    exact Nat.le_refl _
theorem last_hi {D : List Nat} (h : Ok D) : last D ≤ 4000 := by
  unfold last
  rw [List.getD_eq_getElem?_getD]
  cases hd : D[D.length - 1]? with
  | none => simp
  | some d => exact h.hi d (List.mem_of_getElem? hd)
theorem filt_len (l : List Nat) (a b : Nat → Bool) : (l.filter fun d => a d && b d).length + (l.filter fun d => a d && !b d).length = (l.filter a).length := by
  induction l with
  | nil => rfl
  | cons x l ih =>
    rw [List.filter_cons, List.filter_cons, List.filter_cons]
    cases a x <;> cases b x <;> simp <;> omega
theorem miss_count {D : List Nat} (h : Ok D) : (miss D (last D + 1)).length + D.length = last D := by
  have h1 := filt_len (List.range (last D + 1)) (fun d => decide (0 < d)) (fun d => D.contains d)
  have h2 : (List.range (last D + 1)).filter (fun d => decide (0 < d) && D.contains d) = D := by
    refine up_eq (List.pairwise_lt_range.filter _) h.up fun z => ?_
    rw [List.mem_filter]
    constructor
    · rintro ⟨_, h2⟩
      simp at h2
      exact h2.2
    · intro hz
      have := h.lo z hz
      have := last_le h z hz
      exact ⟨List.mem_range.2 (by omega), by simp [hz]; omega⟩
  have h3 : ∀ n, ((List.range (n + 1)).filter (fun d => decide (0 < d))).length = n := fun n => by
    induction n with
    | zero => rfl
    | succ n ih => rw [List.range_succ, List.filter_append, List.length_append, ih]; simp
  rw [h2, h3] at h1
  unfold miss
  omega
end Gt
theorem last_q (A : Option Addr) (n k : Nat) (B : Option Addr) (m l : Nat) (c : Int) (D : List Nat) (w : World) (hL : Lst (ic .u32) 1 w w.heap.size A n (Gt.ab c D)) (hc : U32 c) :
    Calls Try.prog 24 #[gv c A n k B m l] w fun e w' => e = .returned (.int .u32 (Gt.up c (Gt.last D))) ∧ Below w.heap.size w w' := by
  have hl := hL.len
  rw [Gt.ab_len] at hl
  have hnm := hL.most
  unfold maxLen at hnm
  have hc0 := hc.1
  have hc1 := hc.2
  by_cases hn : n = 0
  · subst hn
    obtain rfl : D = [] := List.eq_nil_of_length_eq_zero hl
    have e : Gt.up c (Gt.last []) = c := by unfold Gt.up Gt.M; simp [Gt.last]; omega
    rw [e]
    refine enterW (fun _ => False) _ Try.func24 rfl (by simp only [Try.ntmps24, List.length_cons, List.length_nil, Nat.reduceAdd, Nat.reduceSub]; rfl) ?_
    repeat' (first
    | refine goS ?_
    | ((with_reducible refine WL.isN_bin ?_); first | refine WL.yld rfl binQ ?_)
    | ((with_reducible refine WL.isN_load ?_); first | refine WL.yld rfl loadQ ?_)
    | ((with_reducible refine WL.isN_iaddr ?_); first | refine WL.yld rfl iaddrQ ?_)
    | ((with_reducible refine WL.isN_call ?_); first | refine WL.yld rfl lenQ ?_)
    | ((with_reducible refine WL.isN_box ?_); first | refine WL.step rfl (StepTo.boxA rfl rfl rfl rfl (fun _ => ?_)) | refine WL.step rfl (StepTo.box1 rfl rfl rfl rfl rfl (fun _ => ?_)))
    | with_reducible refine WC.block ?_
    | (refine WC.cond rfl (fun hc => ?_) (fun hc => ?_) <;> (try first | (with_reducible replace hc := of_decide_eq_true hc) | (with_reducible replace hc := of_decide_eq_false hc) | (with_reducible replace hc := eqT hc) | (with_reducible replace hc := eqF hc) | (with_reducible replace hc := neT hc) | (with_reducible replace hc := neF hc) | (with_reducible replace hc := noT hc) | (with_reducible replace hc := noF hc)) <;> (try (exfalso; omega))))
    exact WQ.body (Reads.tmp rfl rfl) fun w' hw' => ⟨rfl, hw'.ext.below⟩
  · obtain ⟨d, hd⟩ : ∃ d, D[n - 1]? = some d := ⟨_, List.getElem?_eq_getElem (by omega)⟩
    have e : Gt.last D = d := by unfold Gt.last; rw [hl, List.getD_eq_getElem?_getD, hd]; rfl
    rw [e]
    have hx := Gt.ab_get (c := c) hd
    refine enterW (fun _ => False) _ Try.func24 rfl (by simp only [Try.ntmps24, List.length_cons, List.length_nil, Nat.reduceAdd, Nat.reduceSub]; rfl) ?_
    refine WC.addVw (ic_len .u32) hL ?_
    refine WC.vwAt 0 rfl (by omega) fun b o hA => ?_
    subst hA
    repeat' (first
    | refine goS ?_
    | ((with_reducible refine WL.isN_bin ?_); first | refine WL.yld rfl binQ ?_)
    | ((with_reducible refine WL.isN_load ?_); first | refine WL.yld rfl (Yld.load rfl rfl rfl rfl (CellAt.vwE 1 rfl (ic_get hx) (by omega))) ?_ | refine WL.yld rfl loadQ ?_)
    | ((with_reducible refine WL.isN_iaddr ?_); first | refine WL.yld rfl (Yld.indexS (n - 1) rfl rfl rfl rfl rfl (by omega) (by omega)) ?_ | refine WL.yld rfl iaddrQ ?_)
    | ((with_reducible refine WL.isN_call ?_); first | refine WL.yld rfl lenQ ?_)
    | ((with_reducible refine WL.isN_box ?_); first | refine WL.step rfl (StepTo.boxA rfl rfl rfl rfl (fun _ => ?_)) | refine WL.step rfl (StepTo.box1 rfl rfl rfl rfl rfl (fun _ => ?_)))
    | with_reducible refine WC.block ?_
    | (refine WC.cond rfl (fun hc => ?_) (fun hc => ?_) <;> (try first | (with_reducible replace hc := of_decide_eq_true hc) | (with_reducible replace hc := of_decide_eq_false hc) | (with_reducible replace hc := eqT hc) | (with_reducible replace hc := eqF hc) | (with_reducible replace hc := neT hc) | (with_reducible replace hc := neF hc) | (with_reducible replace hc := noT hc) | (with_reducible replace hc := noF hc)) <;> (try (exfalso; omega))))
    exact WQ.body (Reads.tmp rfl rfl) fun w' hw' => ⟨rfl, hw'.ext.below⟩
def MissR (c : Int) (D : List Nat) (v : Value) (N : List Item) : Prop := ∃ A q k, v = .slice A q k ∧ okA A q ∧ q = (Gt.miss D (Gt.last D + 1)).length ∧ N = [.vw A q 1 (flat (ic .u32) (Gt.ab c (Gt.miss D (Gt.last D + 1))))]
set_option maxHeartbeats 8000000 in
theorem missing_w (A : Option Addr) (n k : Nat) (B : Option Addr) (m l : Nat) (c : Int) (D : List Nat) (w : World) (hL : Lst (ic .u32) 1 w w.heap.size A n (Gt.ab c D)) (hD : Gt.Ok D) (hc : U32 c) {V : Nat → Prop} :
    Calls Try.prog 23 #[gv c A n k B m l] w fun e w' => ∃ v N, e = .returned v ∧ MissR c D v N ∧ New V N w w' := by
  have hl := hL.len
  rw [Gt.ab_len] at hl
  have hnm := hL.most
  unfold maxLen at hnm
  refine enterW (fun _ => False) _ Try.func23 rfl (by simp only [Try.ntmps23, List.length_cons, List.length_nil, Nat.reduceAdd, Nat.reduceSub]; rfl) ?_
  refine WC.addVw (ic_len .u32) hL ?_
  have h1 : Value.int .u32 ((c + 1) % 4294967296) = .int .u32 (Gt.up c 1) := rfl
  repeat' (first
    | refine goS ?_
    | ((with_reducible refine WL.isN_bin ?_); first | refine WL.yld rfl (Yld.as (Yld.pure rfl mU32) h1) ?_ | refine WL.yld rfl binQ ?_)
    | ((with_reducible refine WL.isN_load ?_); first | refine WL.yld rfl loadQ ?_)
    | ((with_reducible refine WL.isN_iaddr ?_); first | refine WL.yld rfl iaddrQ ?_)
    | ((with_reducible refine WL.isN_call ?_); first | refine WL.yld rfl lenQ ?_ | refine WL.step rfl (StepTo.append 0 rfl rfl rfl rfl rfl rfl rfl rfl rfl rfl rfl rfl (by first | exact CellsAt.boxAll 0 rfl | exact CellsAt.boxAll 1 rfl | exact CellsAt.boxAll 2 rfl | exact CellsAt.boxAll 3 rfl | exact CellsAt.boxAll 4 rfl) rfl rfl (by omega) (fun _ _ => ⟨_, setQ, ?_⟩)) | refine WL.step rfl (StepTo.append 1 rfl rfl rfl rfl rfl rfl rfl rfl rfl rfl rfl rfl (by first | exact CellsAt.boxAll 0 rfl | exact CellsAt.boxAll 1 rfl | exact CellsAt.boxAll 2 rfl | exact CellsAt.boxAll 3 rfl | exact CellsAt.boxAll 4 rfl) rfl rfl (by omega) (fun _ _ => ⟨_, setQ, ?_⟩)) | refine WL.step rfl (StepTo.append 2 rfl rfl rfl rfl rfl rfl rfl rfl rfl rfl rfl rfl (by first | exact CellsAt.boxAll 0 rfl | exact CellsAt.boxAll 1 rfl | exact CellsAt.boxAll 2 rfl | exact CellsAt.boxAll 3 rfl | exact CellsAt.boxAll 4 rfl) rfl rfl (by omega) (fun _ _ => ⟨_, setQ, ?_⟩)) | refine WL.step rfl (StepTo.append 3 rfl rfl rfl rfl rfl rfl rfl rfl rfl rfl rfl rfl (by first | exact CellsAt.boxAll 0 rfl | exact CellsAt.boxAll 1 rfl | exact CellsAt.boxAll 2 rfl | exact CellsAt.boxAll 3 rfl | exact CellsAt.boxAll 4 rfl) rfl rfl (by omega) (fun _ _ => ⟨_, setQ, ?_⟩)) | refine WL.step rfl (StepTo.append 4 rfl rfl rfl rfl rfl rfl rfl rfl rfl rfl rfl rfl (by first | exact CellsAt.boxAll 0 rfl | exact CellsAt.boxAll 1 rfl | exact CellsAt.boxAll 2 rfl | exact CellsAt.boxAll 3 rfl | exact CellsAt.boxAll 4 rfl) rfl rfl (by omega) (fun _ _ => ⟨_, setQ, ?_⟩)) | refine WL.step rfl (StepTo.append 5 rfl rfl rfl rfl rfl rfl rfl rfl rfl rfl rfl rfl (by first | exact CellsAt.boxAll 0 rfl | exact CellsAt.boxAll 1 rfl | exact CellsAt.boxAll 2 rfl | exact CellsAt.boxAll 3 rfl | exact CellsAt.boxAll 4 rfl) rfl rfl (by omega) (fun _ _ => ⟨_, setQ, ?_⟩)) | refine WL.step rfl (StepTo.append 6 rfl rfl rfl rfl rfl rfl rfl rfl rfl rfl rfl rfl (by first | exact CellsAt.boxAll 0 rfl | exact CellsAt.boxAll 1 rfl | exact CellsAt.boxAll 2 rfl | exact CellsAt.boxAll 3 rfl | exact CellsAt.boxAll 4 rfl) rfl rfl (by omega) (fun _ _ => ⟨_, setQ, ?_⟩)))
    | ((with_reducible refine WL.isN_box ?_); first | refine WL.step rfl (StepTo.boxA rfl rfl rfl rfl (fun _ => ?_)) | refine WL.step rfl (StepTo.box1 rfl rfl rfl rfl rfl (fun _ => ?_)))
    | ((with_reducible refine WL.isN_bslice ?_); first | refine WL.step rfl (StepTo.buildSlice rfl rfl rfl rfl rfl rfl rfl rfl rfl rfl cellsOfQ (fun _ => ?_)))
    | with_reducible refine WC.block ?_
    | (refine WC.cond rfl (fun hc => ?_) (fun hc => ?_) <;> (try first | (with_reducible replace hc := of_decide_eq_true hc) | (with_reducible replace hc := of_decide_eq_false hc) | (with_reducible replace hc := eqT hc) | (with_reducible replace hc := eqF hc) | (with_reducible replace hc := neT hc) | (with_reducible replace hc := neF hc) | (with_reducible replace hc := noT hc) | (with_reducible replace hc := noF hc)) <;> (try (exfalso; omega))))
  rename_i b1
  refine WC.nilRow 22 1 ?_
  refine WC.loop (fun mm τ H => ∃ (i q : Nat) (Al : Option Addr) (cl : Nat), i ≤ n ∧ mm = n - i ∧ q = (Gt.miss D (Gt.tp D i)).length ∧
      τ = [(3, .slice Al q cl), (4, .int .u32 (Gt.up c (Gt.tp D i))), (11, .slice A n k), (12, .int .i64 (n : Nat)), (13, .int .i64 (i : Nat))] ∧
      H = [.row Al q cl 22 1 (flat (ic .u32) (Gt.ab c (Gt.miss D (Gt.tp D i)))), .vw A n 1 (flat (ic .u32) (Gt.ab c D))]) n _ _ [0, 2] ?_ ?_ ⟨0, 0, none, 0, by omega, rfl, rfl, rfl, rfl⟩ ?_
  · exact (by repeat (first | exact Sub.nil | refine Sub.cons rfl ?_ | refine Sub.consE rfl (int_eq (by omega)) ?_))
  · exact ⟨by decide, rfl⟩
  rintro mm τ H ⟨i, q, Al, cl, hi, rfl, hq, rfl, rfl⟩
  by_cases hin : i < n
  case neg =>
    obtain rfl : i = D.length := by omega
    rw [Gt.tp_all] at hq ⊢
    have hmb := Gt.miss_len D (Gt.last D + 1)
    have hlh := Gt.last_hi hD
    repeat' (first
    | refine goS ?_
    | ((with_reducible refine WL.isN_bin ?_); first | refine WL.yld rfl binQ ?_)
    | ((with_reducible refine WL.isN_load ?_); first | refine WL.yld rfl loadQ ?_)
    | ((with_reducible refine WL.isN_iaddr ?_); first | refine WL.yld rfl iaddrQ ?_)
    | ((with_reducible refine WL.isN_call ?_); first | refine WL.yld rfl lenQ ?_ | refine WL.step rfl (StepTo.append 0 rfl rfl rfl rfl rfl rfl rfl rfl rfl rfl rfl rfl (by first | exact CellsAt.boxAll 0 rfl | exact CellsAt.boxAll 1 rfl | exact CellsAt.boxAll 2 rfl | exact CellsAt.boxAll 3 rfl | exact CellsAt.boxAll 4 rfl) rfl rfl (by omega) (fun _ _ => ⟨_, setQ, ?_⟩)) | refine WL.step rfl (StepTo.append 1 rfl rfl rfl rfl rfl rfl rfl rfl rfl rfl rfl rfl (by first | exact CellsAt.boxAll 0 rfl | exact CellsAt.boxAll 1 rfl | exact CellsAt.boxAll 2 rfl | exact CellsAt.boxAll 3 rfl | exact CellsAt.boxAll 4 rfl) rfl rfl (by omega) (fun _ _ => ⟨_, setQ, ?_⟩)) | refine WL.step rfl (StepTo.append 2 rfl rfl rfl rfl rfl rfl rfl rfl rfl rfl rfl rfl (by first | exact CellsAt.boxAll 0 rfl | exact CellsAt.boxAll 1 rfl | exact CellsAt.boxAll 2 rfl | exact CellsAt.boxAll 3 rfl | exact CellsAt.boxAll 4 rfl) rfl rfl (by omega) (fun _ _ => ⟨_, setQ, ?_⟩)) | refine WL.step rfl (StepTo.append 3 rfl rfl rfl rfl rfl rfl rfl rfl rfl rfl rfl rfl (by first | exact CellsAt.boxAll 0 rfl | exact CellsAt.boxAll 1 rfl | exact CellsAt.boxAll 2 rfl | exact CellsAt.boxAll 3 rfl | exact CellsAt.boxAll 4 rfl) rfl rfl (by omega) (fun _ _ => ⟨_, setQ, ?_⟩)) | refine WL.step rfl (StepTo.append 4 rfl rfl rfl rfl rfl rfl rfl rfl rfl rfl rfl rfl (by first | exact CellsAt.boxAll 0 rfl | exact CellsAt.boxAll 1 rfl | exact CellsAt.boxAll 2 rfl | exact CellsAt.boxAll 3 rfl | exact CellsAt.boxAll 4 rfl) rfl rfl (by omega) (fun _ _ => ⟨_, setQ, ?_⟩)) | refine WL.step rfl (StepTo.append 5 rfl rfl rfl rfl rfl rfl rfl rfl rfl rfl rfl rfl (by first | exact CellsAt.boxAll 0 rfl | exact CellsAt.boxAll 1 rfl | exact CellsAt.boxAll 2 rfl | exact CellsAt.boxAll 3 rfl | exact CellsAt.boxAll 4 rfl) rfl rfl (by omega) (fun _ _ => ⟨_, setQ, ?_⟩)) | refine WL.step rfl (StepTo.append 6 rfl rfl rfl rfl rfl rfl rfl rfl rfl rfl rfl rfl (by first | exact CellsAt.boxAll 0 rfl | exact CellsAt.boxAll 1 rfl | exact CellsAt.boxAll 2 rfl | exact CellsAt.boxAll 3 rfl | exact CellsAt.boxAll 4 rfl) rfl rfl (by omega) (fun _ _ => ⟨_, setQ, ?_⟩)))
    | ((with_reducible refine WL.isN_box ?_); first | refine WL.step rfl (StepTo.boxA rfl rfl rfl rfl (fun _ => ?_)) | refine WL.step rfl (StepTo.box1 rfl rfl rfl rfl rfl (fun _ => ?_)))
    | ((with_reducible refine WL.isN_bslice ?_); first | refine WL.step rfl (StepTo.buildSlice rfl rfl rfl rfl rfl rfl rfl rfl rfl rfl cellsOfQ (fun _ => ?_)))
    | with_reducible refine WC.block ?_
    | (refine WC.cond rfl (fun hc => ?_) (fun hc => ?_) <;> (try first | (with_reducible replace hc := of_decide_eq_true hc) | (with_reducible replace hc := of_decide_eq_false hc) | (with_reducible replace hc := eqT hc) | (with_reducible replace hc := eqF hc) | (with_reducible replace hc := neT hc) | (with_reducible replace hc := neF hc) | (with_reducible replace hc := noT hc) | (with_reducible replace hc := noF hc)) <;> (try (exfalso; omega))))
    refine WQ.ownRow 0 rfl fun ok own => ?_
    refine WQ.rowVw 0 rfl (by omega) ?_
    exact WQ.body (Reads.tmp rfl rfl) fun w' hw' => ⟨_, _, rfl, ⟨Al, q, cl, rfl, ok, hq, rfl⟩, (hw'.pick (idx := [0]) ⟨by decide, rfl⟩).toNew fun it hit hm b hb => by
      rw [List.mem_singleton] at hit
      subst hit
      exact .inl (own b (vw_blk hb))⟩
  obtain ⟨d, hd⟩ : ∃ d, D[i]? = some d := ⟨_, List.getElem?_eq_getElem (by omega)⟩
  have hx := Gt.ab_get (c := c) hd
  have hd4 := hD.hi d (List.mem_of_getElem? hd)
  have htl := Gt.tp_le hD hd
  have htn := Gt.tp_next hd
  have hno := fun t => Gt.tp_not hD hd (t := t)
  have ht0 : 0 < Gt.tp D i := by unfold Gt.tp; split <;> omega
  refine WC.vwAt 1 rfl (by omega) fun b o hA => ?_
  subst hA
  repeat' (first
    | refine goS ?_
    | ((with_reducible refine WL.isN_bin ?_); first | refine WL.yld rfl binQ ?_)
    | ((with_reducible refine WL.isN_load ?_); first | refine WL.yld rfl (Yld.load rfl rfl rfl rfl (CellAt.vwE 1 rfl (ic_get hx) (by omega))) ?_ | refine WL.yld rfl loadQ ?_)
    | ((with_reducible refine WL.isN_iaddr ?_); first | refine WL.yld rfl (Yld.indexS i rfl rfl rfl rfl rfl rfl hin) ?_ | refine WL.yld rfl iaddrQ ?_)
    | ((with_reducible refine WL.isN_call ?_); first | refine WL.yld rfl lenQ ?_ | refine WL.step rfl (StepTo.append 0 rfl rfl rfl rfl rfl rfl rfl rfl rfl rfl rfl rfl (by first | exact CellsAt.boxAll 0 rfl | exact CellsAt.boxAll 1 rfl | exact CellsAt.boxAll 2 rfl | exact CellsAt.boxAll 3 rfl | exact CellsAt.boxAll 4 rfl) rfl rfl (by omega) (fun _ _ => ⟨_, setQ, ?_⟩)) | refine WL.step rfl (StepTo.append 1 rfl rfl rfl rfl rfl rfl rfl rfl rfl rfl rfl rfl (by first | exact CellsAt.boxAll 0 rfl | exact CellsAt.boxAll 1 rfl | exact CellsAt.boxAll 2 rfl | exact CellsAt.boxAll 3 rfl | exact CellsAt.boxAll 4 rfl) rfl rfl (by omega) (fun _ _ => ⟨_, setQ, ?_⟩)) | refine WL.step rfl (StepTo.append 2 rfl rfl rfl rfl rfl rfl rfl rfl rfl rfl rfl rfl (by first | exact CellsAt.boxAll 0 rfl | exact CellsAt.boxAll 1 rfl | exact CellsAt.boxAll 2 rfl | exact CellsAt.boxAll 3 rfl | exact CellsAt.boxAll 4 rfl) rfl rfl (by omega) (fun _ _ => ⟨_, setQ, ?_⟩)) | refine WL.step rfl (StepTo.append 3 rfl rfl rfl rfl rfl rfl rfl rfl rfl rfl rfl rfl (by first | exact CellsAt.boxAll 0 rfl | exact CellsAt.boxAll 1 rfl | exact CellsAt.boxAll 2 rfl | exact CellsAt.boxAll 3 rfl | exact CellsAt.boxAll 4 rfl) rfl rfl (by omega) (fun _ _ => ⟨_, setQ, ?_⟩)) | refine WL.step rfl (StepTo.append 4 rfl rfl rfl rfl rfl rfl rfl rfl rfl rfl rfl rfl (by first | exact CellsAt.boxAll 0 rfl | exact CellsAt.boxAll 1 rfl | exact CellsAt.boxAll 2 rfl | exact CellsAt.boxAll 3 rfl | exact CellsAt.boxAll 4 rfl) rfl rfl (by omega) (fun _ _ => ⟨_, setQ, ?_⟩)) | refine WL.step rfl (StepTo.append 5 rfl rfl rfl rfl rfl rfl rfl rfl rfl rfl rfl rfl (by first | exact CellsAt.boxAll 0 rfl | exact CellsAt.boxAll 1 rfl | exact CellsAt.boxAll 2 rfl | exact CellsAt.boxAll 3 rfl | exact CellsAt.boxAll 4 rfl) rfl rfl (by omega) (fun _ _ => ⟨_, setQ, ?_⟩)) | refine WL.step rfl (StepTo.append 6 rfl rfl rfl rfl rfl rfl rfl rfl rfl rfl rfl rfl (by first | exact CellsAt.boxAll 0 rfl | exact CellsAt.boxAll 1 rfl | exact CellsAt.boxAll 2 rfl | exact CellsAt.boxAll 3 rfl | exact CellsAt.boxAll 4 rfl) rfl rfl (by omega) (fun _ _ => ⟨_, setQ, ?_⟩)))
    | ((with_reducible refine WL.isN_box ?_); first | refine WL.step rfl (StepTo.boxA rfl rfl rfl rfl (fun _ => ?_)) | refine WL.step rfl (StepTo.box1 rfl rfl rfl rfl rfl (fun _ => ?_)))
    | ((with_reducible refine WL.isN_bslice ?_); first | refine WL.step rfl (StepTo.buildSlice rfl rfl rfl rfl rfl rfl rfl rfl rfl rfl cellsOfQ (fun _ => ?_)))
    | with_reducible refine WC.block ?_
    | (refine WC.cond rfl (fun hc => ?_) (fun hc => ?_) <;> (try first | (with_reducible replace hc := of_decide_eq_true hc) | (with_reducible replace hc := of_decide_eq_false hc) | (with_reducible replace hc := eqT hc) | (with_reducible replace hc := eqF hc) | (with_reducible replace hc := neT hc) | (with_reducible replace hc := neF hc) | (with_reducible replace hc := noT hc) | (with_reducible replace hc := noF hc)) <;> (try (exfalso; omega))))
  refine WC.loop (fun mm τ H => ∃ (t q : Nat) (Al : Option Addr) (cl : Nat), Gt.tp D i ≤ t ∧ t ≤ d ∧ mm = d - t ∧ q = (Gt.miss D t).length ∧
      τ = [(3, .slice Al q cl), (4, .int .u32 (Gt.up c t)), (6, .int .u32 (Gt.up c d)), (11, .slice (some ⟨b, o, none⟩) n k), (12, .int .i64 (n : Nat)), (13, .int .i64 (i : Nat))] ∧
      H = [.row Al q cl 22 1 (flat (ic .u32) (Gt.ab c (Gt.miss D t))), .vw (some ⟨b, o, none⟩) n 1 (flat (ic .u32) (Gt.ab c D))]) (d - Gt.tp D i) _ _ [0, 1] ?_ ?_ ⟨Gt.tp D i, q, Al, cl, Nat.le_refl _, htl, rfl, hq, rfl, rfl⟩ ?_
  · exact (by repeat (first | exact Sub.nil | refine Sub.cons rfl ?_ | refine Sub.consE rfl (int_eq (by omega)) ?_))
  · exact ⟨by decide, rfl⟩
  clear hq
  rintro mm τ H ⟨t, q, Al, cl, ht1, ht2, rfl, hq, rfl, rfl⟩
  have hml := Gt.miss_len D t
  have hmn := Gt.miss_next D t (by omega)
  have hupn : Value.int .u32 ((Gt.up c t + 1) % 4294967296) = .int .u32 (Gt.up c (t + 1)) := by congr 1; unfold Gt.up Gt.M; omega
  have hupd : Value.int .u32 ((Gt.up c d + 1) % 4294967296) = .int .u32 (Gt.up c (d + 1)) := by congr 1; unfold Gt.up Gt.M; omega
  have hdif : Value.int .u32 ((Gt.up c d - Gt.up c t) % 4294967296) = .int .u32 ((d - t : Nat) : Int) := by congr 1; unfold Gt.up Gt.M; omega
  by_cases htd : t < d
  · rw [if_neg (hno t ht1 htd)] at hmn
    have hg1 : (Gt.up c t != Gt.up c d) = true := bneT fun h => by have := Gt.up_inj (by omega) (by omega) h; omega
    have hys : flat (ic .u32) (Gt.ab c (Gt.miss D t)) ++ [.int .u32 (Gt.up c t)] = flat (ic .u32) (Gt.ab c (Gt.miss D (t + 1))) := by
      rw [hmn]
      unfold Gt.ab
      rw [List.map_append, flat_append]; rfl
    repeat' (first
    | refine goS ?_
    | ((with_reducible refine WL.isN_bin ?_); first | refine WL.yld rfl (Yld.as (Yld.pure rfl mU32) hdif) ?_ | refine WL.yld rfl (Yld.as (Yld.pure rfl mU32) hupn) ?_ | refine WL.yld rfl binQ ?_)
    | ((with_reducible refine WL.isN_load ?_); first | refine WL.yld rfl loadQ ?_)
    | ((with_reducible refine WL.isN_iaddr ?_); first | refine WL.yld rfl iaddrQ ?_)
    | ((with_reducible refine WL.isN_call ?_); first | refine WL.step rfl (StepTo.appendTo 1 (flat (ic .u32) (Gt.ab c (Gt.miss D (t + 1)))) rfl rfl rfl rfl rfl rfl rfl rfl rfl rfl rfl rfl (CellsAt.boxAll 0 rfl) rfl rfl (by omega) hys (fun _ _ => ⟨_, setQ, ?_⟩)) | refine WL.yld rfl lenQ ?_ | refine WL.step rfl (StepTo.append 0 rfl rfl rfl rfl rfl rfl rfl rfl rfl rfl rfl rfl (by first | exact CellsAt.boxAll 0 rfl | exact CellsAt.boxAll 1 rfl | exact CellsAt.boxAll 2 rfl | exact CellsAt.boxAll 3 rfl | exact CellsAt.boxAll 4 rfl) rfl rfl (by omega) (fun _ _ => ⟨_, setQ, ?_⟩)) | refine WL.step rfl (StepTo.append 1 rfl rfl rfl rfl rfl rfl rfl rfl rfl rfl rfl rfl (by first | exact CellsAt.boxAll 0 rfl | exact CellsAt.boxAll 1 rfl | exact CellsAt.boxAll 2 rfl | exact CellsAt.boxAll 3 rfl | exact CellsAt.boxAll 4 rfl) rfl rfl (by omega) (fun _ _ => ⟨_, setQ, ?_⟩)) | refine WL.step rfl (StepTo.append 2 rfl rfl rfl rfl rfl rfl rfl rfl rfl rfl rfl rfl (by first | exact CellsAt.boxAll 0 rfl | exact CellsAt.boxAll 1 rfl | exact CellsAt.boxAll 2 rfl | exact CellsAt.boxAll 3 rfl | exact CellsAt.boxAll 4 rfl) rfl rfl (by omega) (fun _ _ => ⟨_, setQ, ?_⟩)) | refine WL.step rfl (StepTo.append 3 rfl rfl rfl rfl rfl rfl rfl rfl rfl rfl rfl rfl (by first | exact CellsAt.boxAll 0 rfl | exact CellsAt.boxAll 1 rfl | exact CellsAt.boxAll 2 rfl | exact CellsAt.boxAll 3 rfl | exact CellsAt.boxAll 4 rfl) rfl rfl (by omega) (fun _ _ => ⟨_, setQ, ?_⟩)) | refine WL.step rfl (StepTo.append 4 rfl rfl rfl rfl rfl rfl rfl rfl rfl rfl rfl rfl (by first | exact CellsAt.boxAll 0 rfl | exact CellsAt.boxAll 1 rfl | exact CellsAt.boxAll 2 rfl | exact CellsAt.boxAll 3 rfl | exact CellsAt.boxAll 4 rfl) rfl rfl (by omega) (fun _ _ => ⟨_, setQ, ?_⟩)) | refine WL.step rfl (StepTo.append 5 rfl rfl rfl rfl rfl rfl rfl rfl rfl rfl rfl rfl (by first | exact CellsAt.boxAll 0 rfl | exact CellsAt.boxAll 1 rfl | exact CellsAt.boxAll 2 rfl | exact CellsAt.boxAll 3 rfl | exact CellsAt.boxAll 4 rfl) rfl rfl (by omega) (fun _ _ => ⟨_, setQ, ?_⟩)) | refine WL.step rfl (StepTo.append 6 rfl rfl rfl rfl rfl rfl rfl rfl rfl rfl rfl rfl (by first | exact CellsAt.boxAll 0 rfl | exact CellsAt.boxAll 1 rfl | exact CellsAt.boxAll 2 rfl | exact CellsAt.boxAll 3 rfl | exact CellsAt.boxAll 4 rfl) rfl rfl (by omega) (fun _ _ => ⟨_, setQ, ?_⟩)))
    | ((with_reducible refine WL.isN_box ?_); first | refine WL.step rfl (StepTo.boxA rfl rfl rfl rfl (fun _ => ?_)) | refine WL.step rfl (StepTo.box1 rfl rfl rfl rfl rfl (fun _ => ?_)))
    | ((with_reducible refine WL.isN_bslice ?_); first | refine WL.step rfl (StepTo.buildSlice rfl rfl rfl rfl rfl rfl rfl rfl rfl rfl cellsOfQ (fun _ => ?_)))
    | with_reducible refine WC.block ?_
    | (refine WC.cond rfl (fun hc => ?_) (fun hc => ?_) <;> (try first | (with_reducible replace hc := of_decide_eq_true hc) | (with_reducible replace hc := of_decide_eq_false hc) | (with_reducible replace hc := eqT hc) | (with_reducible replace hc := eqF hc) | (with_reducible replace hc := neT hc) | (with_reducible replace hc := neF hc) | (with_reducible replace hc := noT hc) | (with_reducible replace hc := noF hc)) <;> (try (exfalso; omega))))
    exact WQ.rnd (d - (t + 1)) _ _ [1, 2] (by repeat (first | exact Sub.nil | refine Sub.cons rfl ?_ | refine Sub.consE rfl (int_eq (by omega)) ?_)) ⟨by decide, rfl⟩ (by omega) ⟨t + 1, q + 1, _, _, by omega, by omega, rfl, by rw [hmn, List.length_append, hq]; rfl, rfl, rfl⟩
  obtain rfl : t = d := by omega
  rw [if_pos (List.mem_of_getElem? hd), ← htn] at hmn
  rw [← hmn] at hq ⊢
  have hg1 : (Gt.up c t != Gt.up c t) = false := bneF rfl
  rw [← htn] at hupd
  repeat' (first
    | refine goS ?_
    | ((with_reducible refine WL.isN_bin ?_); first | refine WL.yld rfl (Yld.as (Yld.pure rfl mU32) hupd) ?_ | refine WL.yld rfl binQ ?_)
    | ((with_reducible refine WL.isN_load ?_); first | refine WL.yld rfl loadQ ?_)
    | ((with_reducible refine WL.isN_iaddr ?_); first | refine WL.yld rfl iaddrQ ?_)
    | ((with_reducible refine WL.isN_call ?_); first | refine WL.yld rfl lenQ ?_ | refine WL.step rfl (StepTo.append 0 rfl rfl rfl rfl rfl rfl rfl rfl rfl rfl rfl rfl (by first | exact CellsAt.boxAll 0 rfl | exact CellsAt.boxAll 1 rfl | exact CellsAt.boxAll 2 rfl | exact CellsAt.boxAll 3 rfl | exact CellsAt.boxAll 4 rfl) rfl rfl (by omega) (fun _ _ => ⟨_, setQ, ?_⟩)) | refine WL.step rfl (StepTo.append 1 rfl rfl rfl rfl rfl rfl rfl rfl rfl rfl rfl rfl (by first | exact CellsAt.boxAll 0 rfl | exact CellsAt.boxAll 1 rfl | exact CellsAt.boxAll 2 rfl | exact CellsAt.boxAll 3 rfl | exact CellsAt.boxAll 4 rfl) rfl rfl (by omega) (fun _ _ => ⟨_, setQ, ?_⟩)) | refine WL.step rfl (StepTo.append 2 rfl rfl rfl rfl rfl rfl rfl rfl rfl rfl rfl rfl (by first | exact CellsAt.boxAll 0 rfl | exact CellsAt.boxAll 1 rfl | exact CellsAt.boxAll 2 rfl | exact CellsAt.boxAll 3 rfl | exact CellsAt.boxAll 4 rfl) rfl rfl (by omega) (fun _ _ => ⟨_, setQ, ?_⟩)) | refine WL.step rfl (StepTo.append 3 rfl rfl rfl rfl rfl rfl rfl rfl rfl rfl rfl rfl (by first | exact CellsAt.boxAll 0 rfl | exact CellsAt.boxAll 1 rfl | exact CellsAt.boxAll 2 rfl | exact CellsAt.boxAll 3 rfl | exact CellsAt.boxAll 4 rfl) rfl rfl (by omega) (fun _ _ => ⟨_, setQ, ?_⟩)) | refine WL.step rfl (StepTo.append 4 rfl rfl rfl rfl rfl rfl rfl rfl rfl rfl rfl rfl (by first | exact CellsAt.boxAll 0 rfl | exact CellsAt.boxAll 1 rfl | exact CellsAt.boxAll 2 rfl | exact CellsAt.boxAll 3 rfl | exact CellsAt.boxAll 4 rfl) rfl rfl (by omega) (fun _ _ => ⟨_, setQ, ?_⟩)) | refine WL.step rfl (StepTo.append 5 rfl rfl rfl rfl rfl rfl rfl rfl rfl rfl rfl rfl (by first | exact CellsAt.boxAll 0 rfl | exact CellsAt.boxAll 1 rfl | exact CellsAt.boxAll 2 rfl | exact CellsAt.boxAll 3 rfl | exact CellsAt.boxAll 4 rfl) rfl rfl (by omega) (fun _ _ => ⟨_, setQ, ?_⟩)) | refine WL.step rfl (StepTo.append 6 rfl rfl rfl rfl rfl rfl rfl rfl rfl rfl rfl rfl (by first | exact CellsAt.boxAll 0 rfl | exact CellsAt.boxAll 1 rfl | exact CellsAt.boxAll 2 rfl | exact CellsAt.boxAll 3 rfl | exact CellsAt.boxAll 4 rfl) rfl rfl (by omega) (fun _ _ => ⟨_, setQ, ?_⟩)))
    | ((with_reducible refine WL.isN_box ?_); first | refine WL.step rfl (StepTo.boxA rfl rfl rfl rfl (fun _ => ?_)) | refine WL.step rfl (StepTo.box1 rfl rfl rfl rfl rfl (fun _ => ?_)))
    | ((with_reducible refine WL.isN_bslice ?_); first | refine WL.step rfl (StepTo.buildSlice rfl rfl rfl rfl rfl rfl rfl rfl rfl rfl cellsOfQ (fun _ => ?_)))
    | with_reducible refine WC.block ?_
    | (refine WC.cond rfl (fun hc => ?_) (fun hc => ?_) <;> (try first | (with_reducible replace hc := of_decide_eq_true hc) | (with_reducible replace hc := of_decide_eq_false hc) | (with_reducible replace hc := eqT hc) | (with_reducible replace hc := eqF hc) | (with_reducible replace hc := neT hc) | (with_reducible replace hc := neF hc) | (with_reducible replace hc := noT hc) | (with_reducible replace hc := noF hc)) <;> (try (exfalso; omega))))
  exact WQ.rnd (n - (i + 1)) _ _ [0, 1] (by repeat (first | exact Sub.nil | refine Sub.cons rfl ?_ | refine Sub.consE rfl (int_eq (by omega)) ?_)) ⟨by decide, rfl⟩ (by omega) ⟨i + 1, q, _, _, by omega, rfl, hq, rfl, rfl⟩
end Go.Proofs.Ythbhjnmkbmmcnaa
