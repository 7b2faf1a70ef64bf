/- The law GotRows. -/
import Derived.Test.YthbhjnmkbmmcnaaGtX
namespace Go.Proofs.Ythbhjnmkbmmcnaa
open Go.RowKit Go.IntWalk
set_option linter.unusedVariables false
set_option linter.unusedSimpArgs false
set_option linter.unusedSectionVars false
set_option maxRecDepth 100000

namespace Gt
/-- A row of distances behind a gap. -/
def rowD (p i : Nat) : List Nat := (List.range i).map fun j => p + 1 + j
theorem rowD_len (p i : Nat) : (rowD p i).length = i := by simp [rowD]
theorem rowD_snoc (p i : Nat) : rowD p (i + 1) = rowD p i ++ [p + 1 + i] := by simp [rowD, List.range_succ]
theorem rowD_mem {p i d : Nat} : d ∈ rowD p i ↔ ∃ j, j < i ∧ d = p + 1 + j := by
  unfold rowD
  rw [List.mem_map]
  constructor
  · rintro ⟨j, hj, rfl⟩
    exact ⟨j, List.mem_range.1 hj, rfl⟩
  · rintro ⟨j, hj, rfl⟩
    exact ⟨j, List.mem_range.2 hj, rfl⟩
theorem rowD_ok {p i : Nat} (hp : 1 ≤ p) (h1 : p ≤ 100) (hi : i ≤ 100) : Ok (rowD p i) := by
  refine ⟨?_, fun d hd => ?_, fun d hd => ?_⟩
  · unfold rowD
    rw [List.pairwise_map]
    exact List.pairwise_lt_range.imp fun h => by omega
  · obtain ⟨j, hj, rfl⟩ := rowD_mem.1 hd; omega
  · obtain ⟨j, hj, rfl⟩ := rowD_mem.1 hd; omega
theorem druns_row (p : Nat) : ∀ i, druns (rowD p (i + 1)) = [(p + 1, p + 1 + i)]
  | 0 => by simp [rowD, druns, dstep]
  | i + 1 => by
    rw [rowD_snoc, druns_snoc, druns_row p i]
    unfold dstep
    simp
    omega
theorem gaps_row (p i : Nat) : gaps (rowD p (i + 1)) = [(((p + 1 : Nat) : Int), ((p + 1 + i : Nat) : Int))] := by
  unfold gaps
  rw [druns_row]
  rfl
theorem last_row (p i : Nat) : last (rowD p (i + 1)) = p + 1 + i := by
  unfold last
  rw [rowD_len, rowD_snoc, List.getD_eq_getElem?_getD, List.getElem?_append_right (by rw [rowD_len]; omega), rowD_len]
  simp
theorem take_first (first : Int) (i : Nat) (hi : i ≤ 100) : take ⟨up (first - 1) i, [], []⟩ (up first i) = (⟨up (first - 1) (i + 1), [], []⟩, true) := by
  have hd : ds (up (first - 1) i) (up first i) = 1 := by unfold ds up M; omega
  unfold take
  simp only [hd]
  have hh : has [] 1 = false := by decide
  have hE : insD 1 [] = [1] := by decide
  rw [hh, if_neg (by simp), if_neg (by omega), hE]
  have hR : run 0 [1] = 1 := by decide
  have hT : trim [1] = [] := by decide
  rw [hR, hT, up_up]
theorem take_row (first : Int) (p i : Nat) (hp : 1 ≤ p) (h1 : p ≤ 100) (hi : i < 100) : take ⟨up (first - 1) 0, rowD p i, []⟩ (up first (i + p)) = (⟨up (first - 1) 0, rowD p (i + 1), []⟩, true) := by
  have hd : ds (up (first - 1) 0) (up first (i + p)) = p + 1 + i := by unfold ds up M; omega
  unfold take
  simp only [hd]
  have hn : p + 1 + i ∉ rowD p i := fun h => by obtain ⟨j, hj, e⟩ := rowD_mem.1 h; omega
  have hh : has (rowD p i) (p + 1 + i) = false := by
    unfold has
    simp [hn]
    omega
  have hE : insD (p + 1 + i) (rowD p i) = rowD p (i + 1) := by
    unfold insD
    rw [List.filter_eq_self.2 (fun x hx => by obtain ⟨j, hj, rfl⟩ := rowD_mem.1 hx; simp; omega), List.filter_eq_nil_iff.2 (fun x hx => by obtain ⟨j, hj, rfl⟩ := rowD_mem.1 hx; simp; omega), rowD_snoc]
  have hR : run 0 (rowD p (i + 1)) = 0 := by
    cases hc : rowD p (i + 1) with
    | nil => rfl
    | cons e r =>
      have : e ∈ rowD p (i + 1) := by rw [hc]; simp
      obtain ⟨j, hj, rfl⟩ := rowD_mem.1 this
      unfold run
      rw [if_neg (by omega)]
  rw [hh, if_neg (by simp), if_neg (by omega), hE]
  have hT : trim (rowD p (i + 1)) = rowD p (i + 1) := by
    unfold trim
    rw [hR, List.drop_zero]
    simp
  rw [hR, hT, up_up]
end Gt
set_option maxHeartbeats 16000000 in
theorem gotRows_walk (first many gap : Int) (w : World) (w0 : (Lit.int .u32 first).wf = true) (_w1 : (Lit.int .i64 many).wf = true) (_w2 : (Lit.int .i64 gap).wf = true) :
    Calls Try.prog 8 #[.int .u32 first, .int .i64 many, .int .i64 gap] w fun e w' => e = .returned (.bool true) ∧ Below w.heap.size w w' := by
  have hfu := u32_of w0
  clear w0 _w1 _w2
  by_cases h1 : many < 0
  · refine enterW (fun _ => False) _ Try.func8 rfl (by simp only [Try.ntmps8, List.length_cons, List.length_nil, Nat.reduceAdd, Nat.reduceSub]; rfl) ?_
    repeat' (first
    | refine goS ?_
    | ((with_reducible refine WL.isN_bin ?_); first | refine WL.yld rfl binQ ?_)
    | ((with_reducible refine WL.isN_load ?_); first | refine WL.yld rfl loadQ ?_)
    | ((with_reducible refine WL.isN_iaddr ?_); first | refine WL.yld rfl iaddrQ ?_)
    | ((with_reducible refine WL.isN_conv ?_); first | refine WL.yld rfl convQ ?_)
    | ((with_reducible refine WL.isN_call ?_); first | refine WL.step rfl (StepTo.callV (v := .bool true) (us := []) rfl rfl rfl rfl rfl (by kernel_rfl) (fun w hw => gshown_q w) ?_) | refine WL.yld rfl lenQ ?_)
    | ((with_reducible refine WL.isN_alloc ?_); first | refine WL.step rfl (StepTo.allocA rfl rfl rfl rfl (fun _ => ?_)) | refine WL.step rfl (StepTo.alloc1 rfl rfl rfl rfl rfl (fun _ => ?_)))
    | ((with_reducible refine WL.isN_store ?_); first | refine WL.step rfl (StepTo.st1 rfl rfl rfl rfl rfl rfl ?_) | refine WL.step rfl (StepTo.stA rfl rfl rfl rfl rfl rfl rfl ?_) | refine WL.step rfl (StepTo.stR rfl rfl rfl rfl rfl rfl rfl ?_))
    | with_reducible refine WC.block ?_
    | (refine WC.cond rfl (fun hc => ?_) (fun hc => ?_) <;> (try first | (with_reducible replace hc := of_decide_eq_true hc) | (with_reducible replace hc := of_decide_eq_false hc) | (with_reducible replace hc := eqT hc) | (with_reducible replace hc := eqF hc) | (with_reducible replace hc := neT hc) | (with_reducible replace hc := neF hc) | (with_reducible replace hc := noT hc) | (with_reducible replace hc := noF hc)) <;> (try (exfalso; omega))))
    exact WQ.body (Reads.tmp rfl rfl) fun w' hw' => ⟨rfl, hw'.ext.below⟩
  by_cases h2 : 100 < many
  · refine enterW (fun _ => False) _ Try.func8 rfl (by simp only [Try.ntmps8, List.length_cons, List.length_nil, Nat.reduceAdd, Nat.reduceSub]; rfl) ?_
    repeat' (first
    | refine goS ?_
    | ((with_reducible refine WL.isN_bin ?_); first | refine WL.yld rfl binQ ?_)
    | ((with_reducible refine WL.isN_load ?_); first | refine WL.yld rfl loadQ ?_)
    | ((with_reducible refine WL.isN_iaddr ?_); first | refine WL.yld rfl iaddrQ ?_)
    | ((with_reducible refine WL.isN_conv ?_); first | refine WL.yld rfl convQ ?_)
    | ((with_reducible refine WL.isN_call ?_); first | refine WL.step rfl (StepTo.callV (v := .bool true) (us := []) rfl rfl rfl rfl rfl (by kernel_rfl) (fun w hw => gshown_q w) ?_) | refine WL.yld rfl lenQ ?_)
    | ((with_reducible refine WL.isN_alloc ?_); first | refine WL.step rfl (StepTo.allocA rfl rfl rfl rfl (fun _ => ?_)) | refine WL.step rfl (StepTo.alloc1 rfl rfl rfl rfl rfl (fun _ => ?_)))
    | ((with_reducible refine WL.isN_store ?_); first | refine WL.step rfl (StepTo.st1 rfl rfl rfl rfl rfl rfl ?_) | refine WL.step rfl (StepTo.stA rfl rfl rfl rfl rfl rfl rfl ?_) | refine WL.step rfl (StepTo.stR rfl rfl rfl rfl rfl rfl rfl ?_))
    | with_reducible refine WC.block ?_
    | (refine WC.cond rfl (fun hc => ?_) (fun hc => ?_) <;> (try first | (with_reducible replace hc := of_decide_eq_true hc) | (with_reducible replace hc := of_decide_eq_false hc) | (with_reducible replace hc := eqT hc) | (with_reducible replace hc := eqF hc) | (with_reducible replace hc := neT hc) | (with_reducible replace hc := neF hc) | (with_reducible replace hc := noT hc) | (with_reducible replace hc := noF hc)) <;> (try (exfalso; omega))))
    exact WQ.body (Reads.tmp rfl rfl) fun w' hw' => ⟨rfl, hw'.ext.below⟩
  by_cases h3 : gap < 1
  · refine enterW (fun _ => False) _ Try.func8 rfl (by simp only [Try.ntmps8, List.length_cons, List.length_nil, Nat.reduceAdd, Nat.reduceSub]; rfl) ?_
    repeat' (first
    | refine goS ?_
    | ((with_reducible refine WL.isN_bin ?_); first | refine WL.yld rfl binQ ?_)
    | ((with_reducible refine WL.isN_load ?_); first | refine WL.yld rfl loadQ ?_)
    | ((with_reducible refine WL.isN_iaddr ?_); first | refine WL.yld rfl iaddrQ ?_)
    | ((with_reducible refine WL.isN_conv ?_); first | refine WL.yld rfl convQ ?_)
    | ((with_reducible refine WL.isN_call ?_); first | refine WL.step rfl (StepTo.callV (v := .bool true) (us := []) rfl rfl rfl rfl rfl (by kernel_rfl) (fun w hw => gshown_q w) ?_) | refine WL.yld rfl lenQ ?_)
    | ((with_reducible refine WL.isN_alloc ?_); first | refine WL.step rfl (StepTo.allocA rfl rfl rfl rfl (fun _ => ?_)) | refine WL.step rfl (StepTo.alloc1 rfl rfl rfl rfl rfl (fun _ => ?_)))
    | ((with_reducible refine WL.isN_store ?_); first | refine WL.step rfl (StepTo.st1 rfl rfl rfl rfl rfl rfl ?_) | refine WL.step rfl (StepTo.stA rfl rfl rfl rfl rfl rfl rfl ?_) | refine WL.step rfl (StepTo.stR rfl rfl rfl rfl rfl rfl rfl ?_))
    | with_reducible refine WC.block ?_
    | (refine WC.cond rfl (fun hc => ?_) (fun hc => ?_) <;> (try first | (with_reducible replace hc := of_decide_eq_true hc) | (with_reducible replace hc := of_decide_eq_false hc) | (with_reducible replace hc := eqT hc) | (with_reducible replace hc := eqF hc) | (with_reducible replace hc := neT hc) | (with_reducible replace hc := neF hc) | (with_reducible replace hc := noT hc) | (with_reducible replace hc := noF hc)) <;> (try (exfalso; omega))))
    exact WQ.body (Reads.tmp rfl rfl) fun w' hw' => ⟨rfl, hw'.ext.below⟩
  by_cases h4 : 100 < gap
  · refine enterW (fun _ => False) _ Try.func8 rfl (by simp only [Try.ntmps8, List.length_cons, List.length_nil, Nat.reduceAdd, Nat.reduceSub]; rfl) ?_
    repeat' (first
    | refine goS ?_
    | ((with_reducible refine WL.isN_bin ?_); first | refine WL.yld rfl binQ ?_)
    | ((with_reducible refine WL.isN_load ?_); first | refine WL.yld rfl loadQ ?_)
    | ((with_reducible refine WL.isN_iaddr ?_); first | refine WL.yld rfl iaddrQ ?_)
    | ((with_reducible refine WL.isN_conv ?_); first | refine WL.yld rfl convQ ?_)
    | ((with_reducible refine WL.isN_call ?_); first | refine WL.step rfl (StepTo.callV (v := .bool true) (us := []) rfl rfl rfl rfl rfl (by kernel_rfl) (fun w hw => gshown_q w) ?_) | refine WL.yld rfl lenQ ?_)
    | ((with_reducible refine WL.isN_alloc ?_); first | refine WL.step rfl (StepTo.allocA rfl rfl rfl rfl (fun _ => ?_)) | refine WL.step rfl (StepTo.alloc1 rfl rfl rfl rfl rfl (fun _ => ?_)))
    | ((with_reducible refine WL.isN_store ?_); first | refine WL.step rfl (StepTo.st1 rfl rfl rfl rfl rfl rfl ?_) | refine WL.step rfl (StepTo.stA rfl rfl rfl rfl rfl rfl rfl ?_) | refine WL.step rfl (StepTo.stR rfl rfl rfl rfl rfl rfl rfl ?_))
    | with_reducible refine WC.block ?_
    | (refine WC.cond rfl (fun hc => ?_) (fun hc => ?_) <;> (try first | (with_reducible replace hc := of_decide_eq_true hc) | (with_reducible replace hc := of_decide_eq_false hc) | (with_reducible replace hc := eqT hc) | (with_reducible replace hc := eqF hc) | (with_reducible replace hc := neT hc) | (with_reducible replace hc := neF hc) | (with_reducible replace hc := noT hc) | (with_reducible replace hc := noF hc)) <;> (try (exfalso; omega))))
    exact WQ.body (Reads.tmp rfl rfl) fun w' hw' => ⟨rfl, hw'.ext.below⟩
  obtain ⟨M, rfl⟩ : ∃ M : Nat, many = M := ⟨many.toNat, by omega⟩
  obtain ⟨p, rfl⟩ : ∃ p : Nat, gap = p := ⟨gap.toNat, by omega⟩
  have hc0 : Value.int .u32 ((first - 1) % 4294967296) = .int .u32 (Gt.up (first - 1) 0) := by congr 1; unfold Gt.up Gt.M; omega
  have hci := fun i => Gt.up_in (first - 1) i
  have nq := new_q first w
  refine enterW (fun _ => False) _ Try.func8 rfl (by simp only [Try.ntmps8, List.length_cons, List.length_nil, Nat.reduceAdd, Nat.reduceSub]; rfl) ?_
  refine WC.nilVw 1 ?_
  refine WC.nilVw 1 ?_
  refine WC.nilVw 1 ?_
  refine WC.nilVw 1 ?_
  have nq := fun w => new_q first w
  unfold gv at nq
  rw [hc0] at nq
  repeat' (first
    | refine goS ?_
    | ((with_reducible refine WL.isN_bin ?_); first | refine WL.yld rfl binQ ?_)
    | ((with_reducible refine WL.isN_load ?_); first | refine WL.yld rfl loadQ ?_)
    | ((with_reducible refine WL.isN_iaddr ?_); first | refine WL.yld rfl iaddrQ ?_)
    | ((with_reducible refine WL.isN_conv ?_); first | refine WL.yld rfl convQ ?_)
    | ((with_reducible refine WL.isN_call ?_); first | refine WL.step rfl (StepTo.callV (v := .bool true) (us := []) rfl rfl rfl rfl rfl (by kernel_rfl) (fun w hw => gshown_q w) ?_) | refine WL.step rfl (StepTo.callV (v := gv (Gt.up (first - 1) 0) none 0 0 none 0 0) (us := [.int .u32 first]) rfl rfl rfl rfl rfl (by kernel_rfl) (fun w hw => nq w) ?_) | refine WL.yld rfl lenQ ?_)
    | ((with_reducible refine WL.isN_alloc ?_); first | refine WL.step rfl (StepTo.allocA rfl rfl rfl rfl (fun _ => ?_)) | refine WL.step rfl (StepTo.alloc1 rfl rfl rfl rfl rfl (fun _ => ?_)))
    | ((with_reducible refine WL.isN_store ?_); first | refine WL.step rfl (StepTo.st1 rfl rfl rfl rfl rfl rfl ?_) | refine WL.step rfl (StepTo.stA rfl rfl rfl rfl rfl rfl rfl ?_) | refine WL.step rfl (StepTo.stR rfl rfl rfl rfl rfl rfl rfl ?_))
    | with_reducible refine WC.block ?_
    | (refine WC.cond rfl (fun hc => ?_) (fun hc => ?_) <;> (try first | (with_reducible replace hc := of_decide_eq_true hc) | (with_reducible replace hc := of_decide_eq_false hc) | (with_reducible replace hc := eqT hc) | (with_reducible replace hc := eqF hc) | (with_reducible replace hc := neT hc) | (with_reducible replace hc := neF hc) | (with_reducible replace hc := noT hc) | (with_reducible replace hc := noF hc)) <;> (try (exfalso; omega))))
  rename_i b8 b9
  refine WC.loop (fun mm τ H => ∃ (i : Nat) (A1 : Option Addr) (k1 : Nat) (B1 : Option Addr) (l1 : Nat) (A2 : Option Addr) (k2 : Nat) (B2 : Option Addr) (l2 : Nat), i ≤ M ∧ mm = M - i ∧ okA A1 0 ∧ okA B1 0 ∧ okA A2 i ∧ okA B2 0 ∧ i ≤ k2 ∧
      τ = [(0, .int .u32 first), (1, .int .i64 (M : Nat)), (2, .int .i64 (p : Nat)), (8, .pointer (some ⟨b8, 0, none⟩)), (9, .pointer (some ⟨b9, 0, none⟩)), (10, .int .i64 (i : Nat))] ∧
      H = [.box b8 25 [.int .u32 (Gt.up (first - 1) i), .slice A1 0 k1, .slice B1 0 l1], .vw A1 0 1 (flat (ic .u32) (Gt.ab (Gt.up (first - 1) i) [])), .vw B1 0 1 (flat (ic .u32) []), .box b9 25 [.int .u32 (Gt.up (first - 1) 0), .slice A2 i k2, .slice B2 0 l2], .vw A2 i 1 (flat (ic .u32) (Gt.ab (Gt.up (first - 1) 0) (Gt.rowD p i))), .vw B2 0 1 (flat (ic .u32) [])]) M _ _ [1, 2, 3, 0, 4, 5] ?_ ?_
      ⟨0, none, 0, none, 0, none, 0, none, 0, by omega, rfl, okA_nil, okA_nil, okA_nil, okA_nil, by omega, rfl, rfl⟩ ?_
  · exact (by repeat (first | exact Sub.nil | refine Sub.cons rfl ?_ | refine Sub.consE rfl (int_eq (by omega)) ?_))
  · exact ⟨by decide, rfl⟩
  clear nq
  rintro mm τ H ⟨i, A1, k1, B1, l1, A2, k2, B2, l2, hi, rfl, oA1, oB1, oA2, oB2, hk2, rfl, rfl⟩
  have hDo := Gt.rowD_ok (p := p) (i := i) (by omega) (by omega) (by omega)
  by_cases hiM : i < M
  · have hv1 : Value.int .u32 ((first + (i : Int)) % 4294967296) = .int .u32 (Gt.up first i) := rfl
    have hv2 : Value.int .u32 ((first + ((i : Int) + (p : Int))) % 4294967296) = .int .u32 (Gt.up first (i + p)) := rfl
    have tq := fun w {V : Nat → Prop} hL hM hVA hVB => take_w (V := V) A1 0 k1 B1 0 l1 ⟨Gt.up (first - 1) i, [], []⟩ (Gt.up first i) w hL hM oA1 oB1 (by omega) (by omega) ⟨hci i, Gt.Ok.nil, by simp⟩ (by omega) (Gt.up_in _ _) hVA hVB
    have uq := fun w {V : Nat → Prop} hL hM hVA hVB => take_w (V := V) A2 i k2 B2 0 l2 ⟨Gt.up (first - 1) 0, Gt.rowD p i, []⟩ (Gt.up first (i + p)) w hL hM oA2 oB2 hk2 (by omega) ⟨hci 0, hDo, by simp⟩ (by omega) (Gt.up_in _ _) hVA hVB
    rw [Gt.take_first first i (by omega)] at tq
    rw [Gt.take_row first p i (by omega) (by omega) (by omega)] at uq
    repeat' (first
    | refine goS ?_
    | ((with_reducible refine WL.isN_bin ?_); first | refine WL.yld rfl (Yld.as (Yld.pure rfl mU32) hv1) ?_ | refine WL.yld rfl binQ ?_)
    | ((with_reducible refine WL.isN_load ?_); first | refine WL.yld rfl loadQ ?_)
    | ((with_reducible refine WL.isN_iaddr ?_); first | refine WL.yld rfl iaddrQ ?_)
    | ((with_reducible refine WL.isN_conv ?_); first | refine WL.yld rfl convQ ?_)
    | ((with_reducible refine WL.isN_call ?_); first | refine WL.yld rfl lenQ ?_)
    | ((with_reducible refine WL.isN_alloc ?_); first | refine WL.step rfl (StepTo.allocA rfl rfl rfl rfl (fun _ => ?_)) | refine WL.step rfl (StepTo.alloc1 rfl rfl rfl rfl rfl (fun _ => ?_)))
    | ((with_reducible refine WL.isN_store ?_); first | refine WL.step rfl (StepTo.st1 rfl rfl rfl rfl rfl rfl ?_) | refine WL.step rfl (StepTo.stA rfl rfl rfl rfl rfl rfl rfl ?_) | refine WL.step rfl (StepTo.stR rfl rfl rfl rfl rfl rfl rfl ?_))
    | with_reducible refine WC.block ?_
    | (refine WC.cond rfl (fun hc => ?_) (fun hc => ?_) <;> (try first | (with_reducible replace hc := of_decide_eq_true hc) | (with_reducible replace hc := of_decide_eq_false hc) | (with_reducible replace hc := eqT hc) | (with_reducible replace hc := eqF hc) | (with_reducible replace hc := neT hc) | (with_reducible replace hc := neF hc) | (with_reducible replace hc := noT hc) | (with_reducible replace hc := noF hc)) <;> (try (exfalso; omega))))
    refine WL.step rfl (StepTo.callN [1, 2] (us := [gv (Gt.up (first - 1) i) A1 0 k1 B1 0 l1, .int .u32 (Gt.up first i)]) rfl rfl rfl rfl rfl (by kernel_rfl) (fun w hw => tq w (hw.lst 1 (ic_len .u32) (by omega) rfl) (hw.lst 2 (ic_len .u32) (by omega) rfl) (nearV.vs 1 rfl (by simp)) (nearV.vs 2 rfl (by simp))) ?_)
    rintro v N ⟨A3, n3, k3, B3, m3, l3, rfl, oA3, oB3, hn3, hm3, hk3, hl3, rfl⟩
    obtain rfl : n3 = 0 := hn3
    obtain rfl : m3 = 0 := hm3
    dsimp only
    repeat' (first
    | refine goS ?_
    | ((with_reducible refine WL.isN_bin ?_); first | refine WL.yld rfl (Yld.as (Yld.pure rfl mU32) hv2) ?_ | refine WL.yld rfl binQ ?_)
    | ((with_reducible refine WL.isN_load ?_); first | refine WL.yld rfl loadQ ?_)
    | ((with_reducible refine WL.isN_iaddr ?_); first | refine WL.yld rfl iaddrQ ?_)
    | ((with_reducible refine WL.isN_conv ?_); first | refine WL.yld rfl convQ ?_)
    | ((with_reducible refine WL.isN_call ?_); first | refine WL.yld rfl lenQ ?_)
    | ((with_reducible refine WL.isN_alloc ?_); first | refine WL.step rfl (StepTo.allocA rfl rfl rfl rfl (fun _ => ?_)) | refine WL.step rfl (StepTo.alloc1 rfl rfl rfl rfl rfl (fun _ => ?_)))
    | ((with_reducible refine WL.isN_store ?_); first | refine WL.step rfl (StepTo.st1 rfl rfl rfl rfl rfl rfl ?_) | refine WL.step rfl (StepTo.stA rfl rfl rfl rfl rfl rfl rfl ?_) | refine WL.step rfl (StepTo.stR rfl rfl rfl rfl rfl rfl rfl ?_))
    | with_reducible refine WC.block ?_
    | (refine WC.cond rfl (fun hc => ?_) (fun hc => ?_) <;> (try first | (with_reducible replace hc := of_decide_eq_true hc) | (with_reducible replace hc := of_decide_eq_false hc) | (with_reducible replace hc := eqT hc) | (with_reducible replace hc := eqF hc) | (with_reducible replace hc := neT hc) | (with_reducible replace hc := neF hc) | (with_reducible replace hc := noT hc) | (with_reducible replace hc := noF hc)) <;> (try (exfalso; omega))))
    refine WL.step rfl (StepTo.callN [7, 8] (us := [gv (Gt.up (first - 1) 0) A2 i k2 B2 0 l2, .int .u32 (Gt.up first (i + p))]) rfl rfl rfl rfl rfl (by kernel_rfl) (fun w hw => uq w (hw.lst 7 (ic_len .u32) (by omega) rfl) (hw.lst 8 (ic_len .u32) (by omega) rfl) (nearV.vs 7 rfl (by simp)) (nearV.vs 8 rfl (by simp))) ?_)
    rintro v N ⟨A4, n4, k4, B4, m4, l4, rfl, oA4, oB4, hn4, hm4, hk4, hl4, rfl⟩
    obtain rfl : n4 = i + 1 := hn4.trans (Gt.rowD_len p (i + 1))
    obtain rfl : m4 = 0 := hm4
    dsimp only
    repeat' (first
    | refine goS ?_
    | ((with_reducible refine WL.isN_bin ?_); first | refine WL.yld rfl binQ ?_)
    | ((with_reducible refine WL.isN_load ?_); first | refine WL.yld rfl loadQ ?_)
    | ((with_reducible refine WL.isN_iaddr ?_); first | refine WL.yld rfl iaddrQ ?_)
    | ((with_reducible refine WL.isN_conv ?_); first | refine WL.yld rfl convQ ?_)
    | ((with_reducible refine WL.isN_call ?_); first | refine WL.yld rfl lenQ ?_)
    | ((with_reducible refine WL.isN_alloc ?_); first | refine WL.step rfl (StepTo.allocA rfl rfl rfl rfl (fun _ => ?_)) | refine WL.step rfl (StepTo.alloc1 rfl rfl rfl rfl rfl (fun _ => ?_)))
    | ((with_reducible refine WL.isN_store ?_); first | refine WL.step rfl (StepTo.st1 rfl rfl rfl rfl rfl rfl ?_) | refine WL.step rfl (StepTo.stA rfl rfl rfl rfl rfl rfl rfl ?_) | refine WL.step rfl (StepTo.stR rfl rfl rfl rfl rfl rfl rfl ?_))
    | with_reducible refine WC.block ?_
    | (refine WC.cond rfl (fun hc => ?_) (fun hc => ?_) <;> (try first | (with_reducible replace hc := of_decide_eq_true hc) | (with_reducible replace hc := of_decide_eq_false hc) | (with_reducible replace hc := eqT hc) | (with_reducible replace hc := eqF hc) | (with_reducible replace hc := neT hc) | (with_reducible replace hc := neF hc) | (with_reducible replace hc := noT hc) | (with_reducible replace hc := noF hc)) <;> (try (exfalso; omega))))
    exact WQ.rnd (M - (i + 1)) _ _ [6, 4, 5, 9, 1, 2] (by repeat (first | exact Sub.nil | refine Sub.cons rfl ?_ | refine Sub.consE rfl (int_eq (by omega)) ?_)) ⟨by decide, rfl⟩ (by omega) ⟨i + 1, A3, k3, B3, l3, A4, k4, B4, l4, by omega, rfl, oA3, oB3, oA4, oB4, hk4, rfl, rfl⟩
  obtain rfl : i = M := by omega
  have gq := fun w {V : Nat → Prop} hL => gaps_w (V := V) A2 i k2 B2 0 l2 (Gt.up (first - 1) 0) (Gt.rowD p i) w hL oA2 hDo (by omega)
  have gq2 := fun w {V : Nat → Prop} hL => gaps_w (V := V) A1 0 k1 B1 0 l1 (Gt.up (first - 1) i) [] w hL oA1 Gt.Ok.nil (by omega)
  have hv1 : Value.int .u32 ((first + (i : Int)) % 4294967296) = .int .u32 (Gt.up first i) := rfl
  have hv2 : Value.int .u32 ((Gt.up first i - 1) % 4294967296) = .int .u32 (Gt.up (first - 1) i) := by congr 1; unfold Gt.up Gt.M; omega
  repeat' (first
    | refine goS ?_
    | ((with_reducible refine WL.isN_bin ?_); first | refine WL.yld rfl binQ ?_)
    | ((with_reducible refine WL.isN_load ?_); first | refine WL.yld rfl loadQ ?_)
    | ((with_reducible refine WL.isN_iaddr ?_); first | refine WL.yld rfl iaddrQ ?_)
    | ((with_reducible refine WL.isN_conv ?_); first | refine WL.yld rfl convQ ?_)
    | ((with_reducible refine WL.isN_call ?_); first | refine WL.yld rfl lenQ ?_)
    | ((with_reducible refine WL.isN_alloc ?_); first | refine WL.step rfl (StepTo.allocA rfl rfl rfl rfl (fun _ => ?_)) | refine WL.step rfl (StepTo.alloc1 rfl rfl rfl rfl rfl (fun _ => ?_)))
    | ((with_reducible refine WL.isN_store ?_); first | refine WL.step rfl (StepTo.st1 rfl rfl rfl rfl rfl rfl ?_) | refine WL.step rfl (StepTo.stA rfl rfl rfl rfl rfl rfl rfl ?_) | refine WL.step rfl (StepTo.stR rfl rfl rfl rfl rfl rfl rfl ?_))
    | with_reducible refine WC.block ?_
    | (refine WC.cond rfl (fun hc => ?_) (fun hc => ?_) <;> (try first | (with_reducible replace hc := of_decide_eq_true hc) | (with_reducible replace hc := of_decide_eq_false hc) | (with_reducible replace hc := eqT hc) | (with_reducible replace hc := eqF hc) | (with_reducible replace hc := neT hc) | (with_reducible replace hc := neF hc) | (with_reducible replace hc := noT hc) | (with_reducible replace hc := noF hc)) <;> (try (exfalso; omega))))
  refine WL.step rfl (StepTo.callN [] (us := [gv (Gt.up (first - 1) 0) A2 i k2 B2 0 l2]) rfl rfl rfl rfl rfl (by kernel_rfl) (fun w hw => gq w (hw.lst 4 (ic_len .u32) (by omega) rfl)) ?_)
  rintro v N ⟨Ag, q, kg, rfl, okg, hq, rfl⟩
  repeat' (first
    | refine goS ?_
    | ((with_reducible refine WL.isN_bin ?_); first | refine WL.yld rfl (Yld.as (Yld.pure rfl mU32) hv1) ?_ | refine WL.yld rfl (Yld.as (Yld.pure rfl mU32) hv2) ?_ | refine WL.yld rfl (Yld.as (Yld.pure rfl mU32) hc0) ?_ | refine WL.yld rfl binQ ?_)
    | ((with_reducible refine WL.isN_load ?_); first | refine WL.yld rfl loadQ ?_)
    | ((with_reducible refine WL.isN_iaddr ?_); first | refine WL.yld rfl iaddrQ ?_)
    | ((with_reducible refine WL.isN_conv ?_); first | refine WL.yld rfl convQ ?_)
    | ((with_reducible refine WL.isN_call ?_); first | refine WL.yld rfl lenQ ?_)
    | ((with_reducible refine WL.isN_alloc ?_); first | refine WL.step rfl (StepTo.allocA rfl rfl rfl rfl (fun _ => ?_)) | refine WL.step rfl (StepTo.alloc1 rfl rfl rfl rfl rfl (fun _ => ?_)))
    | ((with_reducible refine WL.isN_store ?_); first | refine WL.step rfl (StepTo.st1 rfl rfl rfl rfl rfl rfl ?_) | refine WL.step rfl (StepTo.stA rfl rfl rfl rfl rfl rfl rfl ?_) | refine WL.step rfl (StepTo.stR rfl rfl rfl rfl rfl rfl rfl ?_))
    | with_reducible refine WC.block ?_
    | (refine WC.cond rfl (fun hc => ?_) (fun hc => ?_) <;> (try first | (with_reducible replace hc := of_decide_eq_true hc) | (with_reducible replace hc := of_decide_eq_false hc) | (with_reducible replace hc := eqT hc) | (with_reducible replace hc := eqF hc) | (with_reducible replace hc := neT hc) | (with_reducible replace hc := neF hc) | (with_reducible replace hc := noT hc) | (with_reducible replace hc := noF hc)) <;> (try (exfalso; omega))))
  refine WL.step rfl (StepTo.callN [] (us := [gv (Gt.up (first - 1) i) A1 0 k1 B1 0 l1]) rfl rfl rfl rfl rfl (by kernel_rfl) (fun w hw => gq2 w (hw.lst 2 (ic_len .u32) (by omega) rfl)) ?_)
  rintro v N ⟨Ah, q2, kh, rfl, okh, hq2, rfl⟩
  obtain rfl : q2 = 0 := hq2
  by_cases hi0 : i = 0
  · subst hi0
    obtain rfl : q = 0 := hq
    repeat' (first
    | refine goS ?_
    | ((with_reducible refine WL.isN_bin ?_); first | refine WL.yld rfl (Yld.as (Yld.pure rfl mU32) hc0) ?_ | refine WL.yld rfl binQ ?_)
    | ((with_reducible refine WL.isN_load ?_); first | refine WL.yld rfl loadQ ?_)
    | ((with_reducible refine WL.isN_iaddr ?_); first | refine WL.yld rfl iaddrQ ?_)
    | ((with_reducible refine WL.isN_conv ?_); first | refine WL.yld rfl convQ ?_)
    | ((with_reducible refine WL.isN_call ?_); first | refine WL.yld rfl lenQ ?_)
    | ((with_reducible refine WL.isN_alloc ?_); first | refine WL.step rfl (StepTo.allocA rfl rfl rfl rfl (fun _ => ?_)) | refine WL.step rfl (StepTo.alloc1 rfl rfl rfl rfl rfl (fun _ => ?_)))
    | ((with_reducible refine WL.isN_store ?_); first | refine WL.step rfl (StepTo.st1 rfl rfl rfl rfl rfl rfl ?_) | refine WL.step rfl (StepTo.stA rfl rfl rfl rfl rfl rfl rfl ?_) | refine WL.step rfl (StepTo.stR rfl rfl rfl rfl rfl rfl rfl ?_))
    | with_reducible refine WC.block ?_
    | (refine WC.cond rfl (fun hc => ?_) (fun hc => ?_) <;> (try first | (with_reducible replace hc := of_decide_eq_true hc) | (with_reducible replace hc := of_decide_eq_false hc) | (with_reducible replace hc := eqT hc) | (with_reducible replace hc := eqF hc) | (with_reducible replace hc := neT hc) | (with_reducible replace hc := neF hc) | (with_reducible replace hc := noT hc) | (with_reducible replace hc := noF hc)) <;> (try (exfalso; omega))))
    exact WQ.body (Reads.tmp rfl rfl) fun w' hw' => ⟨rfl, hw'.ext.below⟩
  obtain ⟨j, rfl⟩ : ∃ j, i = j + 1 := ⟨i - 1, by omega⟩
  have hcnt := Gt.miss_count hDo
  rw [Gt.last_row, Gt.rowD_len] at hcnt
  rw [Gt.gaps_row] at hq ⊢
  obtain rfl : q = 1 := hq
  have mq := fun w {V : Nat → Prop} hL => missing_w (V := V) A2 (j + 1) k2 B2 0 l2 (Gt.up (first - 1) 0) (Gt.rowD p (j + 1)) w hL hDo (hci 0)
  have lq := fun w hL => last_q A2 (j + 1) k2 B2 0 l2 (Gt.up (first - 1) 0) (Gt.rowD p (j + 1)) w hL (hci 0)
  unfold MissR at mq
  rw [Gt.last_row] at mq lq
  generalize Gt.miss (Gt.rowD p (j + 1)) (p + 1 + j + 1) = ms at *
  have hl0 : (flat (pc .u16) [(((p + 1 : Nat) : Int), ((p + 1 + j : Nat) : Int))])[0]? = some (.int .u16 (p + 1 : Nat)) := rfl
  have hl1 : (flat (pc .u16) [(((p + 1 : Nat) : Int), ((p + 1 + j : Nat) : Int))])[1]? = some (.int .u16 (p + 1 + j : Nat)) := rfl
  refine WL.vwAt 1 rfl (by omega) fun ba oa hA => ?_
  subst hA
  repeat' (first
    | refine goS ?_
    | ((with_reducible refine WL.isN_bin ?_); first | refine WL.yld rfl (Yld.as (Yld.pure rfl mU32) hc0) ?_ | refine WL.yld rfl binQ ?_)
    | ((with_reducible refine WL.isN_load ?_); first | refine WL.yld rfl (Yld.load rfl rfl rfl rfl (CellAt.vwE 1 rfl hl0 (by omega))) ?_ | refine WL.yld rfl (Yld.load rfl rfl rfl rfl (CellAt.vwE 1 rfl hl1 (by omega))) ?_ | refine WL.yld rfl loadQ ?_)
    | ((with_reducible refine WL.isN_iaddr ?_); first | refine WL.yld rfl iaddrQ ?_)
    | ((with_reducible refine WL.isN_conv ?_); first | refine WL.yld rfl convQ ?_)
    | ((with_reducible refine WL.isN_call ?_); first | refine WL.yld rfl lenQ ?_)
    | ((with_reducible refine WL.isN_alloc ?_); first | refine WL.step rfl (StepTo.allocA rfl rfl rfl rfl (fun _ => ?_)) | refine WL.step rfl (StepTo.alloc1 rfl rfl rfl rfl rfl (fun _ => ?_)))
    | ((with_reducible refine WL.isN_store ?_); first | refine WL.step rfl (StepTo.st1 rfl rfl rfl rfl rfl rfl ?_) | refine WL.step rfl (StepTo.stA rfl rfl rfl rfl rfl rfl rfl ?_) | refine WL.step rfl (StepTo.stR rfl rfl rfl rfl rfl rfl rfl ?_))
    | with_reducible refine WC.block ?_
    | (refine WC.cond rfl (fun hc => ?_) (fun hc => ?_) <;> (try first | (with_reducible replace hc := of_decide_eq_true hc) | (with_reducible replace hc := of_decide_eq_false hc) | (with_reducible replace hc := eqT hc) | (with_reducible replace hc := eqF hc) | (with_reducible replace hc := neT hc) | (with_reducible replace hc := neF hc) | (with_reducible replace hc := noT hc) | (with_reducible replace hc := noF hc)) <;> (try (exfalso; omega))))
  refine WL.step rfl (StepTo.callN [] (us := [gv (Gt.up (first - 1) 0) A2 (j + 1) k2 B2 0 l2]) rfl rfl rfl rfl rfl (by kernel_rfl) (fun w hw => mq w (hw.lst 6 (ic_len .u32) (by omega) rfl)) ?_)
  rintro v N ⟨Am, q3, km, rfl, okm, hq3, rfl⟩
  obtain rfl : q3 = p := by omega
  have hv3 : Value.int .u32 ((first + ((q3 : Int) + ((j + 1 : Nat) : Int))) % 4294967296) = .int .u32 (Gt.up first (q3 + (j + 1))) := rfl
  have hv4 : Value.int .u32 ((Gt.up first (q3 + (j + 1)) - 1) % 4294967296) = .int .u32 (Gt.up (Gt.up (first - 1) 0) (q3 + 1 + j)) := by congr 1; unfold Gt.up Gt.M; omega
  repeat' (first
    | refine goS ?_
    | ((with_reducible refine WL.isN_bin ?_); first | refine WL.yld rfl (Yld.as (Yld.pure rfl mU32) hv3) ?_ | refine WL.yld rfl (Yld.as (Yld.pure rfl mU32) hv4) ?_ | refine WL.yld rfl binQ ?_)
    | ((with_reducible refine WL.isN_load ?_); first | refine WL.yld rfl loadQ ?_)
    | ((with_reducible refine WL.isN_iaddr ?_); first | refine WL.yld rfl iaddrQ ?_)
    | ((with_reducible refine WL.isN_conv ?_); first | refine WL.yld rfl convQ ?_)
    | ((with_reducible refine WL.isN_call ?_); first | refine WL.step rfl (StepTo.callV (v := .int .u32 (Gt.up (Gt.up (first - 1) 0) (q3 + 1 + j))) (us := [gv (Gt.up (first - 1) 0) A2 (j + 1) k2 B2 0 l2]) rfl rfl rfl rfl rfl (by kernel_rfl) (fun w hw => lq w (hw.lst 7 (ic_len .u32) (by omega) rfl)) ?_) | refine WL.yld rfl lenQ ?_)
    | ((with_reducible refine WL.isN_alloc ?_); first | refine WL.step rfl (StepTo.allocA rfl rfl rfl rfl (fun _ => ?_)) | refine WL.step rfl (StepTo.alloc1 rfl rfl rfl rfl rfl (fun _ => ?_)))
    | ((with_reducible refine WL.isN_store ?_); first | refine WL.step rfl (StepTo.st1 rfl rfl rfl rfl rfl rfl ?_) | refine WL.step rfl (StepTo.stA rfl rfl rfl rfl rfl rfl rfl ?_) | refine WL.step rfl (StepTo.stR rfl rfl rfl rfl rfl rfl rfl ?_))
    | with_reducible refine WC.block ?_
    | (refine WC.cond rfl (fun hc => ?_) (fun hc => ?_) <;> (try first | (with_reducible replace hc := of_decide_eq_true hc) | (with_reducible replace hc := of_decide_eq_false hc) | (with_reducible replace hc := eqT hc) | (with_reducible replace hc := eqF hc) | (with_reducible replace hc := neT hc) | (with_reducible replace hc := neF hc) | (with_reducible replace hc := noT hc) | (with_reducible replace hc := noF hc)) <;> (try (exfalso; omega))))
  have hfin : (Gt.up (Gt.up (first - 1) 0) (q3 + 1 + j) == Gt.up (Gt.up (first - 1) 0) (q3 + 1 + j)) = true := beqT rfl
  exact WQ.body (Reads.tmp rfl rfl) fun w' hw' => ⟨by rw [hfin], hw'.ext.below⟩
end Go.Proofs.Ythbhjnmkbmmcnaa
