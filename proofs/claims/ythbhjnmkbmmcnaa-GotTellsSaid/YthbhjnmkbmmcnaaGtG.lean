/- The gaps in what came, of the program; the examples at the head of all statements. -/
import Derived.Test.YthbhjnmkbmmcnaaGtV
import Derived.Test.YthbhjnmkbmmcnaaArr
namespace Go.Proofs.Ythbhjnmkbmmcnaa
open Go.RowKit Go.IntWalk
set_option linter.unusedVariables false
set_option linter.unusedSimpArgs false
set_option linter.unusedSectionVars false
set_option maxRecDepth 100000

namespace Gt
/-- One more distance in the rows. -/
def dstep (out : List (Nat × Nat)) (d : Nat) : List (Nat × Nat) :=
  match out[out.length - 1]? with
  | some p => if p.2 + 1 = d then out.set (out.length - 1) (p.1, d) else out ++ [(d, d)]
  | none => out ++ [(d, d)]
def druns (D : List Nat) : List (Nat × Nat) := D.foldl dstep []
theorem dstep_mem {S : Nat → Prop} {out : List (Nat × Nat)} {d : Nat} (h : ∀ p ∈ out, S p.1 ∧ S p.2) (hd : S d) : ∀ p ∈ dstep out d, S p.1 ∧ S p.2 := fun p hp => by
  have happ : p ∈ out ++ [(d, d)] → S p.1 ∧ S p.2 := fun hp => by
    rcases List.mem_append.1 hp with hp | hp
    · exact h p hp
    · rw [List.mem_singleton.1 hp]; exact ⟨hd, hd⟩
  unfold dstep at hp
  split at hp
  · rename_i q hq
    split at hp
    · rcases List.mem_or_eq_of_mem_set hp with hp | rfl
      · exact h p hp
      · exact ⟨(h q (List.mem_of_getElem? hq)).1, hd⟩
    · exact happ hp
  · exact happ hp
theorem druns_mem {S : Nat → Prop} {D : List Nat} (hD : ∀ d ∈ D, S d) : ∀ p ∈ druns D, S p.1 ∧ S p.2 := by
  have : ∀ (D : List Nat) (out : List (Nat × Nat)), (∀ d ∈ D, S d) → (∀ p ∈ out, S p.1 ∧ S p.2) → ∀ p ∈ D.foldl dstep out, S p.1 ∧ S p.2 := fun D => by
    induction D with
    | nil => intro out _ h; exact h
    | cons d D ih => intro out hD h; exact ih _ (fun e he => hD e (List.mem_cons_of_mem _ he)) (dstep_mem h (hD d (by simp)))
  exact this D [] hD (by simp)
theorem dstep_len (out : List (Nat × Nat)) (d : Nat) : (dstep out d).length ≤ out.length + 1 := by
  unfold dstep
  split
  · split <;> simp
  · simp
theorem druns_len (D : List Nat) : (druns D).length ≤ D.length := by
  have : ∀ (D : List Nat) (out : List (Nat × Nat)), (D.foldl dstep out).length ≤ D.length + out.length := fun D => by
    induction D with
    | nil => intro out; simp
    | cons d D ih =>
      intro out
      have := ih (dstep out d)
      have := dstep_len out d
      simp only [List.foldl_cons, List.length_cons]
      omega
  simpa [druns] using this D []
theorem druns_snoc (D : List Nat) (d : Nat) : druns (D ++ [d]) = dstep (druns D) d := by simp [druns]
theorem rstep_up (c : Int) {out : List (Nat × Nat)} {d : Nat} (h : ∀ p ∈ out, p.1 ≤ 100000 ∧ p.2 ≤ 100000) (hd : d ≤ 100000) : rstep (out.map fun p => (up c p.1, up c p.2)) (up c d) = (dstep out d).map fun p => (up c p.1, up c p.2) := by
  unfold rstep dstep
  rw [List.length_map, List.getElem?_map]
  cases hq : out[out.length - 1]? with
  | none => simp
  | some p =>
    have hp := (h p (List.mem_of_getElem? hq)).2
    simp only [Option.map_some]
    have hiff : (up c p.2 + 1) % 4294967296 = up c d ↔ p.2 + 1 = d := by
      have e : (up c p.2 + 1) % 4294967296 = up c (p.2 + 1) := by unfold up M; omega
      rw [e]
      exact ⟨fun h => up_inj (by omega) (by omega) h, fun h => by rw [h]⟩
    by_cases hh : p.2 + 1 = d
    · rw [if_pos hh, if_pos (hiff.2 hh), List.map_set]
    · rw [if_neg hh, if_neg (fun e => hh (hiff.1 e))]; simp
theorem runs_ab (c : Int) {D : List Nat} (hD : ∀ d ∈ D, d ≤ 100000) : runs (ab c D) = (druns D).map fun p => (up c p.1, up c p.2) := by
  have : ∀ (D : List Nat) (out : List (Nat × Nat)), (∀ d ∈ D, d ≤ 100000) → (∀ p ∈ out, p.1 ≤ 100000 ∧ p.2 ≤ 100000) → (D.map (up c)).foldl rstep (out.map fun p => (up c p.1, up c p.2)) = (D.foldl dstep out).map fun p => (up c p.1, up c p.2) := fun D => by
    induction D with
    | nil => intro out _ _; rfl
    | cons d D ih =>
      intro out hD h
      have hd := hD d (by simp)
      rw [List.map_cons, List.foldl_cons, List.foldl_cons, rstep_up c h hd]
      exact ih _ (fun e he => hD e (List.mem_cons_of_mem _ he)) (dstep_mem (S := fun x => x ≤ 100000) h hd)
  exact this D [] hD (by simp)
theorem srt_ab {c : Int} {D : List Nat} (h : Ok D) : Ser.srt c (ab c D) = ab c D := by
  have hu : ∀ y ∈ ab c D, Ser.RU y := ab_ru c D
  refine Ser.up_eq (Ser.up_srt hu) ?_ fun z => Ser.mem_srt hu
  unfold Ser.Up ab
  rw [List.pairwise_map]
  refine h.up.imp_of_mem ?_
  intro a b ha hb hab
  have h1 := h.hi a ha
  have h2 := h.hi b hb
  unfold Ser.kf up M
  omega
/-- The gaps that are told. -/
def gaps (D : List Nat) : List (Int × Int) := ((druns D).take 100).map fun p => ((p.1 : Int), (p.2 : Int))
end Gt
def GapsR (D : List Nat) (v : Value) (N : List Item) : Prop := ∃ A q k, v = .slice A q k ∧ okA A q ∧ q = (Gt.gaps D).length ∧ N = [.vw A q 2 (flat (pc .u16) (Gt.gaps D))]
set_option maxHeartbeats 8000000 in
theorem gaps_w (A : Option Addr) (n k : Nat) (B : Option Addr) (m l : Nat) (c : Int) (D : List Nat) (w : World) (hL : Lst (ic .u32) 1 w w.heap.size A n (Gt.ab c D)) (hA : okA A n) (hD : Gt.Ok D) (hn : n ≤ 100000) {V : Nat → Prop} :
    Calls Try.prog 25 #[gv c A n k B m l] w fun e w' => ∃ v N, e = .returned v ∧ GapsR D v N ∧ New V N w w' := by
  have hl := hL.len
  rw [Gt.ab_len] at hl
  have hrq := fun w hL {V : Nat → Prop} => runs_w (V := V) A n k c (Gt.ab c D) w hL hn hA (Gt.ab_ru c D)
  rw [Gt.srt_ab hD, Gt.runs_ab c (fun d hd => by have := hD.hi d hd; omega)] at hrq
  have hdm := Gt.druns_mem (S := fun x => x ≤ 4000) hD.hi
  have hdl := Gt.druns_len D
  unfold GapsR Gt.gaps
  generalize Gt.druns D = dr at *
  refine enterW (fun _ => False) _ Try.func25 rfl (by simp only [Try.ntmps25, List.length_cons, List.length_nil, Nat.reduceAdd, Nat.reduceSub]; rfl) ?_
  refine WC.addVw (ic_len .u32) hL ?_
  repeat' (first
    | refine goS ?_
    | ((with_reducible refine WL.isN_bin ?_); first | refine WL.yld rfl binQ ?_)
    | ((with_reducible refine WL.isN_load ?_); first | refine WL.yld rfl loadQ ?_)
    | ((with_reducible refine WL.isN_iaddr ?_); first | refine WL.yld rfl iaddrQ ?_)
    | ((with_reducible refine WL.isN_conv ?_); first | refine WL.yld rfl convQ ?_)
    | ((with_reducible refine WL.isN_build ?_); first | refine WL.yld rfl buildQ ?_)
    | ((with_reducible refine WL.isN_call ?_); first | refine WL.yld rfl lenQ ?_ | refine WL.step rfl (StepTo.append 0 rfl rfl rfl rfl rfl rfl rfl rfl rfl rfl rfl rfl (by first | exact CellsAt.boxAll 0 rfl | exact CellsAt.boxAll 1 rfl | exact CellsAt.boxAll 2 rfl | exact CellsAt.boxAll 3 rfl | exact CellsAt.boxAll 4 rfl) rfl rfl (by omega) (fun _ _ => ⟨_, setQ, ?_⟩)) | refine WL.step rfl (StepTo.append 1 rfl rfl rfl rfl rfl rfl rfl rfl rfl rfl rfl rfl (by first | exact CellsAt.boxAll 0 rfl | exact CellsAt.boxAll 1 rfl | exact CellsAt.boxAll 2 rfl | exact CellsAt.boxAll 3 rfl | exact CellsAt.boxAll 4 rfl) rfl rfl (by omega) (fun _ _ => ⟨_, setQ, ?_⟩)) | refine WL.step rfl (StepTo.append 2 rfl rfl rfl rfl rfl rfl rfl rfl rfl rfl rfl rfl (by first | exact CellsAt.boxAll 0 rfl | exact CellsAt.boxAll 1 rfl | exact CellsAt.boxAll 2 rfl | exact CellsAt.boxAll 3 rfl | exact CellsAt.boxAll 4 rfl) rfl rfl (by omega) (fun _ _ => ⟨_, setQ, ?_⟩)) | refine WL.step rfl (StepTo.append 3 rfl rfl rfl rfl rfl rfl rfl rfl rfl rfl rfl rfl (by first | exact CellsAt.boxAll 0 rfl | exact CellsAt.boxAll 1 rfl | exact CellsAt.boxAll 2 rfl | exact CellsAt.boxAll 3 rfl | exact CellsAt.boxAll 4 rfl) rfl rfl (by omega) (fun _ _ => ⟨_, setQ, ?_⟩)) | refine WL.step rfl (StepTo.append 4 rfl rfl rfl rfl rfl rfl rfl rfl rfl rfl rfl rfl (by first | exact CellsAt.boxAll 0 rfl | exact CellsAt.boxAll 1 rfl | exact CellsAt.boxAll 2 rfl | exact CellsAt.boxAll 3 rfl | exact CellsAt.boxAll 4 rfl) rfl rfl (by omega) (fun _ _ => ⟨_, setQ, ?_⟩)) | refine WL.step rfl (StepTo.append 5 rfl rfl rfl rfl rfl rfl rfl rfl rfl rfl rfl rfl (by first | exact CellsAt.boxAll 0 rfl | exact CellsAt.boxAll 1 rfl | exact CellsAt.boxAll 2 rfl | exact CellsAt.boxAll 3 rfl | exact CellsAt.boxAll 4 rfl) rfl rfl (by omega) (fun _ _ => ⟨_, setQ, ?_⟩)) | refine WL.step rfl (StepTo.append 6 rfl rfl rfl rfl rfl rfl rfl rfl rfl rfl rfl rfl (by first | exact CellsAt.boxAll 0 rfl | exact CellsAt.boxAll 1 rfl | exact CellsAt.boxAll 2 rfl | exact CellsAt.boxAll 3 rfl | exact CellsAt.boxAll 4 rfl) rfl rfl (by omega) (fun _ _ => ⟨_, setQ, ?_⟩)))
    | ((with_reducible refine WL.isN_box ?_); first | refine WL.step rfl (StepTo.boxA rfl rfl rfl rfl (fun _ => ?_)) | refine WL.step rfl (StepTo.box1 rfl rfl rfl rfl rfl (fun _ => ?_)))
    | ((with_reducible refine WL.isN_alloc ?_); first | refine WL.step rfl (StepTo.allocA rfl rfl rfl rfl (fun _ => ?_)) | refine WL.step rfl (StepTo.alloc1 rfl rfl rfl rfl rfl (fun _ => ?_)))
    | ((with_reducible refine WL.isN_store ?_); first | refine WL.step rfl (StepTo.st1 rfl rfl rfl rfl rfl rfl ?_) | refine WL.step rfl (StepTo.stA rfl rfl rfl rfl rfl rfl rfl ?_) | refine WL.step rfl (StepTo.stR rfl rfl rfl rfl rfl rfl rfl ?_))
    | ((with_reducible refine WL.isN_bslice ?_); first | refine WL.step rfl (StepTo.buildSlice rfl rfl rfl rfl rfl rfl rfl rfl rfl rfl cellsOfQ (fun _ => ?_)))
    | with_reducible refine WC.block ?_
    | (refine WC.cond rfl (fun hc => ?_) (fun hc => ?_) <;> (try first | (with_reducible replace hc := of_decide_eq_true hc) | (with_reducible replace hc := of_decide_eq_false hc) | (with_reducible replace hc := eqT hc) | (with_reducible replace hc := eqF hc) | (with_reducible replace hc := neT hc) | (with_reducible replace hc := neF hc) | (with_reducible replace hc := noT hc) | (with_reducible replace hc := noF hc)) <;> (try (exfalso; omega))))
  refine WL.step rfl (StepTo.callN [] (us := [.slice A n k, .int .u32 c]) rfl rfl rfl rfl rfl (by kernel_rfl) (fun w hw => hrq w (hw.lst 1 (ic_len .u32) (by omega) rfl)) ?_)
  rintro v N ⟨A7, m7, c7, hm7, rfl, rfl⟩
  rw [List.length_map] at hm7
  repeat' (first
    | refine goS ?_
    | ((with_reducible refine WL.isN_bin ?_); first | refine WL.yld rfl binQ ?_)
    | ((with_reducible refine WL.isN_load ?_); first | refine WL.yld rfl loadQ ?_)
    | ((with_reducible refine WL.isN_iaddr ?_); first | refine WL.yld rfl iaddrQ ?_)
    | ((with_reducible refine WL.isN_conv ?_); first | refine WL.yld rfl convQ ?_)
    | ((with_reducible refine WL.isN_build ?_); first | refine WL.yld rfl buildQ ?_)
    | ((with_reducible refine WL.isN_call ?_); first | refine WL.yld rfl lenQ ?_ | refine WL.step rfl (StepTo.append 0 rfl rfl rfl rfl rfl rfl rfl rfl rfl rfl rfl rfl (by first | exact CellsAt.boxAll 0 rfl | exact CellsAt.boxAll 1 rfl | exact CellsAt.boxAll 2 rfl | exact CellsAt.boxAll 3 rfl | exact CellsAt.boxAll 4 rfl) rfl rfl (by omega) (fun _ _ => ⟨_, setQ, ?_⟩)) | refine WL.step rfl (StepTo.append 1 rfl rfl rfl rfl rfl rfl rfl rfl rfl rfl rfl rfl (by first | exact CellsAt.boxAll 0 rfl | exact CellsAt.boxAll 1 rfl | exact CellsAt.boxAll 2 rfl | exact CellsAt.boxAll 3 rfl | exact CellsAt.boxAll 4 rfl) rfl rfl (by omega) (fun _ _ => ⟨_, setQ, ?_⟩)) | refine WL.step rfl (StepTo.append 2 rfl rfl rfl rfl rfl rfl rfl rfl rfl rfl rfl rfl (by first | exact CellsAt.boxAll 0 rfl | exact CellsAt.boxAll 1 rfl | exact CellsAt.boxAll 2 rfl | exact CellsAt.boxAll 3 rfl | exact CellsAt.boxAll 4 rfl) rfl rfl (by omega) (fun _ _ => ⟨_, setQ, ?_⟩)) | refine WL.step rfl (StepTo.append 3 rfl rfl rfl rfl rfl rfl rfl rfl rfl rfl rfl rfl (by first | exact CellsAt.boxAll 0 rfl | exact CellsAt.boxAll 1 rfl | exact CellsAt.boxAll 2 rfl | exact CellsAt.boxAll 3 rfl | exact CellsAt.boxAll 4 rfl) rfl rfl (by omega) (fun _ _ => ⟨_, setQ, ?_⟩)) | refine WL.step rfl (StepTo.append 4 rfl rfl rfl rfl rfl rfl rfl rfl rfl rfl rfl rfl (by first | exact CellsAt.boxAll 0 rfl | exact CellsAt.boxAll 1 rfl | exact CellsAt.boxAll 2 rfl | exact CellsAt.boxAll 3 rfl | exact CellsAt.boxAll 4 rfl) rfl rfl (by omega) (fun _ _ => ⟨_, setQ, ?_⟩)) | refine WL.step rfl (StepTo.append 5 rfl rfl rfl rfl rfl rfl rfl rfl rfl rfl rfl rfl (by first | exact CellsAt.boxAll 0 rfl | exact CellsAt.boxAll 1 rfl | exact CellsAt.boxAll 2 rfl | exact CellsAt.boxAll 3 rfl | exact CellsAt.boxAll 4 rfl) rfl rfl (by omega) (fun _ _ => ⟨_, setQ, ?_⟩)) | refine WL.step rfl (StepTo.append 6 rfl rfl rfl rfl rfl rfl rfl rfl rfl rfl rfl rfl (by first | exact CellsAt.boxAll 0 rfl | exact CellsAt.boxAll 1 rfl | exact CellsAt.boxAll 2 rfl | exact CellsAt.boxAll 3 rfl | exact CellsAt.boxAll 4 rfl) rfl rfl (by omega) (fun _ _ => ⟨_, setQ, ?_⟩)))
    | ((with_reducible refine WL.isN_box ?_); first | refine WL.step rfl (StepTo.boxA rfl rfl rfl rfl (fun _ => ?_)) | refine WL.step rfl (StepTo.box1 rfl rfl rfl rfl rfl (fun _ => ?_)))
    | ((with_reducible refine WL.isN_alloc ?_); first | refine WL.step rfl (StepTo.allocA rfl rfl rfl rfl (fun _ => ?_)) | refine WL.step rfl (StepTo.alloc1 rfl rfl rfl rfl rfl (fun _ => ?_)))
    | ((with_reducible refine WL.isN_store ?_); first | refine WL.step rfl (StepTo.st1 rfl rfl rfl rfl rfl rfl ?_) | refine WL.step rfl (StepTo.stA rfl rfl rfl rfl rfl rfl rfl ?_) | refine WL.step rfl (StepTo.stR rfl rfl rfl rfl rfl rfl rfl ?_))
    | ((with_reducible refine WL.isN_bslice ?_); first | refine WL.step rfl (StepTo.buildSlice rfl rfl rfl rfl rfl rfl rfl rfl rfl rfl cellsOfQ (fun _ => ?_)))
    | with_reducible refine WC.block ?_
    | (refine WC.cond rfl (fun hc => ?_) (fun hc => ?_) <;> (try first | (with_reducible replace hc := of_decide_eq_true hc) | (with_reducible replace hc := of_decide_eq_false hc) | (with_reducible replace hc := eqT hc) | (with_reducible replace hc := eqF hc) | (with_reducible replace hc := neT hc) | (with_reducible replace hc := neF hc) | (with_reducible replace hc := noT hc) | (with_reducible replace hc := noF hc)) <;> (try (exfalso; omega))))
  rename_i b1
  refine WC.nilRow 55 2 ?_
  refine WC.loop (fun mm τ H => ∃ (i : Nat) (Al : Option Addr) (cl : Nat), i ≤ m7 ∧ i ≤ 100 ∧ mm = m7 - i ∧
      τ = [(1, .pointer (some ⟨b1, 0, none⟩)), (3, .slice Al i cl), (10, .slice A7 m7 c7), (11, .int .i64 (m7 : Nat)), (12, .int .i64 (i : Nat))] ∧
      H = [.row Al i cl 55 2 (flat (pc .u16) ((dr.take i).map fun p => ((p.1 : Int), (p.2 : Int)))), .row A7 m7 c7 69 2 (flat (pc .u32) (dr.map fun p => (Gt.up c p.1, Gt.up c p.2))), .box b1 25 [.int .u32 c, .slice A n k, .slice B m l]]) m7 _ _ [0, 1, 2] ?_ ?_ ⟨0, none, 0, by omega, by omega, rfl, rfl, rfl⟩ ?_
  · exact (by repeat (first | exact Sub.nil | refine Sub.cons rfl ?_ | refine Sub.consE rfl (int_eq (by omega)) ?_))
  · exact ⟨by decide, rfl⟩
  rintro mm τ H ⟨i, Al, cl, hi, hi100, rfl, rfl, rfl⟩
  have fin : ∀ {w' : World} {H : List Item}, (i = m7 ∨ i = 100) → okA Al i → (∀ b, Al.map (·.block) = some b → w.heap.size ≤ b) → Sat w (fun _ => False) (.vw Al i 2 (flat (pc .u16) ((dr.take i).map fun p => ((p.1 : Int), (p.2 : Int)))) :: H) w' →
      ∃ v N, Ending.returned (.slice Al i cl) = .returned v ∧ (∃ A q k, v = .slice A q k ∧ okA A q ∧ q = ((dr.take 100).map fun p => ((p.1 : Int), (p.2 : Int))).length ∧ N = [.vw A q 2 (flat (pc .u16) ((dr.take 100).map fun p => ((p.1 : Int), (p.2 : Int))))]) ∧ New V N w w' := fun hor ok own hw' => by
    have e : dr.take 100 = dr.take i := by
      rcases hor with h | h
      · rw [List.take_of_length_le (by omega), List.take_of_length_le (by omega)]
      · rw [h]
    refine ⟨_, _, rfl, ⟨Al, i, cl, rfl, ok, by rw [e, List.length_map, List.length_take]; omega, by rw [e]⟩, (hw'.pick (idx := [0]) ⟨by decide, rfl⟩).toNew fun it hit hm b hb => ?_⟩
    rw [List.mem_singleton] at hit
    subst hit
    exact .inl (own b (vw_blk hb))
  by_cases him : i < m7
  case neg =>
    repeat' (first
    | refine goS ?_
    | ((with_reducible refine WL.isN_bin ?_); first | refine WL.yld rfl binQ ?_)
    | ((with_reducible refine WL.isN_load ?_); first | refine WL.yld rfl loadQ ?_)
    | ((with_reducible refine WL.isN_iaddr ?_); first | refine WL.yld rfl iaddrQ ?_)
    | ((with_reducible refine WL.isN_conv ?_); first | refine WL.yld rfl convQ ?_)
    | ((with_reducible refine WL.isN_build ?_); first | refine WL.yld rfl buildQ ?_)
    | ((with_reducible refine WL.isN_call ?_); first | refine WL.yld rfl lenQ ?_ | refine WL.step rfl (StepTo.append 0 rfl rfl rfl rfl rfl rfl rfl rfl rfl rfl rfl rfl (by first | exact CellsAt.boxAll 0 rfl | exact CellsAt.boxAll 1 rfl | exact CellsAt.boxAll 2 rfl | exact CellsAt.boxAll 3 rfl | exact CellsAt.boxAll 4 rfl) rfl rfl (by omega) (fun _ _ => ⟨_, setQ, ?_⟩)) | refine WL.step rfl (StepTo.append 1 rfl rfl rfl rfl rfl rfl rfl rfl rfl rfl rfl rfl (by first | exact CellsAt.boxAll 0 rfl | exact CellsAt.boxAll 1 rfl | exact CellsAt.boxAll 2 rfl | exact CellsAt.boxAll 3 rfl | exact CellsAt.boxAll 4 rfl) rfl rfl (by omega) (fun _ _ => ⟨_, setQ, ?_⟩)) | refine WL.step rfl (StepTo.append 2 rfl rfl rfl rfl rfl rfl rfl rfl rfl rfl rfl rfl (by first | exact CellsAt.boxAll 0 rfl | exact CellsAt.boxAll 1 rfl | exact CellsAt.boxAll 2 rfl | exact CellsAt.boxAll 3 rfl | exact CellsAt.boxAll 4 rfl) rfl rfl (by omega) (fun _ _ => ⟨_, setQ, ?_⟩)) | refine WL.step rfl (StepTo.append 3 rfl rfl rfl rfl rfl rfl rfl rfl rfl rfl rfl rfl (by first | exact CellsAt.boxAll 0 rfl | exact CellsAt.boxAll 1 rfl | exact CellsAt.boxAll 2 rfl | exact CellsAt.boxAll 3 rfl | exact CellsAt.boxAll 4 rfl) rfl rfl (by omega) (fun _ _ => ⟨_, setQ, ?_⟩)) | refine WL.step rfl (StepTo.append 4 rfl rfl rfl rfl rfl rfl rfl rfl rfl rfl rfl rfl (by first | exact CellsAt.boxAll 0 rfl | exact CellsAt.boxAll 1 rfl | exact CellsAt.boxAll 2 rfl | exact CellsAt.boxAll 3 rfl | exact CellsAt.boxAll 4 rfl) rfl rfl (by omega) (fun _ _ => ⟨_, setQ, ?_⟩)) | refine WL.step rfl (StepTo.append 5 rfl rfl rfl rfl rfl rfl rfl rfl rfl rfl rfl rfl (by first | exact CellsAt.boxAll 0 rfl | exact CellsAt.boxAll 1 rfl | exact CellsAt.boxAll 2 rfl | exact CellsAt.boxAll 3 rfl | exact CellsAt.boxAll 4 rfl) rfl rfl (by omega) (fun _ _ => ⟨_, setQ, ?_⟩)) | refine WL.step rfl (StepTo.append 6 rfl rfl rfl rfl rfl rfl rfl rfl rfl rfl rfl rfl (by first | exact CellsAt.boxAll 0 rfl | exact CellsAt.boxAll 1 rfl | exact CellsAt.boxAll 2 rfl | exact CellsAt.boxAll 3 rfl | exact CellsAt.boxAll 4 rfl) rfl rfl (by omega) (fun _ _ => ⟨_, setQ, ?_⟩)))
    | ((with_reducible refine WL.isN_box ?_); first | refine WL.step rfl (StepTo.boxA rfl rfl rfl rfl (fun _ => ?_)) | refine WL.step rfl (StepTo.box1 rfl rfl rfl rfl rfl (fun _ => ?_)))
    | ((with_reducible refine WL.isN_alloc ?_); first | refine WL.step rfl (StepTo.allocA rfl rfl rfl rfl (fun _ => ?_)) | refine WL.step rfl (StepTo.alloc1 rfl rfl rfl rfl rfl (fun _ => ?_)))
    | ((with_reducible refine WL.isN_store ?_); first | refine WL.step rfl (StepTo.st1 rfl rfl rfl rfl rfl rfl ?_) | refine WL.step rfl (StepTo.stA rfl rfl rfl rfl rfl rfl rfl ?_) | refine WL.step rfl (StepTo.stR rfl rfl rfl rfl rfl rfl rfl ?_))
    | ((with_reducible refine WL.isN_bslice ?_); first | refine WL.step rfl (StepTo.buildSlice rfl rfl rfl rfl rfl rfl rfl rfl rfl rfl cellsOfQ (fun _ => ?_)))
    | with_reducible refine WC.block ?_
    | (refine WC.cond rfl (fun hc => ?_) (fun hc => ?_) <;> (try first | (with_reducible replace hc := of_decide_eq_true hc) | (with_reducible replace hc := of_decide_eq_false hc) | (with_reducible replace hc := eqT hc) | (with_reducible replace hc := eqF hc) | (with_reducible replace hc := neT hc) | (with_reducible replace hc := neF hc) | (with_reducible replace hc := noT hc) | (with_reducible replace hc := noF hc)) <;> (try (exfalso; omega))))
    refine WQ.ownRow 0 rfl fun ok own => ?_
    refine WQ.rowVw 0 rfl (by omega) ?_
    exact WQ.body (Reads.tmp rfl rfl) fun w' hw' => fin (.inl (by omega)) ok own hw'
  obtain ⟨p, hp⟩ : ∃ p, dr[i]? = some p := ⟨_, List.getElem?_eq_getElem (by omega)⟩
  have hpm := hdm p (List.mem_of_getElem? hp)
  have hpe : (dr.map fun p => (Gt.up c p.1, Gt.up c p.2))[i]? = some (Gt.up c p.1, Gt.up c p.2) := by rw [List.getElem?_map, hp]; rfl
  have hpy : PartAt (flat (pc .u32) (dr.map fun p => (Gt.up c p.1, Gt.up c p.2))) (i * 2) [.int .u32 (Gt.up c p.1), .int .u32 (Gt.up c p.2)] := PartAt.flat (pc_len .u32) hpe
  refine WC.rowAt 1 rfl (by omega) fun g7 h7 => ?_
  subst h7
  by_cases h100 : i = 100
  · repeat' (first
    | refine goS ?_
    | ((with_reducible refine WL.isN_bin ?_); first | refine WL.yld rfl binQ ?_)
    | ((with_reducible refine WL.isN_load ?_); first | refine WL.yld rfl loadQ ?_)
    | ((with_reducible refine WL.isN_iaddr ?_); first | refine WL.yld rfl (Yld.indexS i rfl rfl rfl rfl rfl rfl him) ?_ | refine WL.yld rfl iaddrQ ?_)
    | ((with_reducible refine WL.isN_conv ?_); first | refine WL.yld rfl convQ ?_)
    | ((with_reducible refine WL.isN_build ?_); first | refine WL.yld rfl buildQ ?_)
    | ((with_reducible refine WL.isN_call ?_); first | refine WL.yld rfl lenQ ?_ | refine WL.step rfl (StepTo.append 0 rfl rfl rfl rfl rfl rfl rfl rfl rfl rfl rfl rfl (by first | exact CellsAt.boxAll 0 rfl | exact CellsAt.boxAll 1 rfl | exact CellsAt.boxAll 2 rfl | exact CellsAt.boxAll 3 rfl | exact CellsAt.boxAll 4 rfl) rfl rfl (by omega) (fun _ _ => ⟨_, setQ, ?_⟩)) | refine WL.step rfl (StepTo.append 1 rfl rfl rfl rfl rfl rfl rfl rfl rfl rfl rfl rfl (by first | exact CellsAt.boxAll 0 rfl | exact CellsAt.boxAll 1 rfl | exact CellsAt.boxAll 2 rfl | exact CellsAt.boxAll 3 rfl | exact CellsAt.boxAll 4 rfl) rfl rfl (by omega) (fun _ _ => ⟨_, setQ, ?_⟩)) | refine WL.step rfl (StepTo.append 2 rfl rfl rfl rfl rfl rfl rfl rfl rfl rfl rfl rfl (by first | exact CellsAt.boxAll 0 rfl | exact CellsAt.boxAll 1 rfl | exact CellsAt.boxAll 2 rfl | exact CellsAt.boxAll 3 rfl | exact CellsAt.boxAll 4 rfl) rfl rfl (by omega) (fun _ _ => ⟨_, setQ, ?_⟩)) | refine WL.step rfl (StepTo.append 3 rfl rfl rfl rfl rfl rfl rfl rfl rfl rfl rfl rfl (by first | exact CellsAt.boxAll 0 rfl | exact CellsAt.boxAll 1 rfl | exact CellsAt.boxAll 2 rfl | exact CellsAt.boxAll 3 rfl | exact CellsAt.boxAll 4 rfl) rfl rfl (by omega) (fun _ _ => ⟨_, setQ, ?_⟩)) | refine WL.step rfl (StepTo.append 4 rfl rfl rfl rfl rfl rfl rfl rfl rfl rfl rfl rfl (by first | exact CellsAt.boxAll 0 rfl | exact CellsAt.boxAll 1 rfl | exact CellsAt.boxAll 2 rfl | exact CellsAt.boxAll 3 rfl | exact CellsAt.boxAll 4 rfl) rfl rfl (by omega) (fun _ _ => ⟨_, setQ, ?_⟩)) | refine WL.step rfl (StepTo.append 5 rfl rfl rfl rfl rfl rfl rfl rfl rfl rfl rfl rfl (by first | exact CellsAt.boxAll 0 rfl | exact CellsAt.boxAll 1 rfl | exact CellsAt.boxAll 2 rfl | exact CellsAt.boxAll 3 rfl | exact CellsAt.boxAll 4 rfl) rfl rfl (by omega) (fun _ _ => ⟨_, setQ, ?_⟩)) | refine WL.step rfl (StepTo.append 6 rfl rfl rfl rfl rfl rfl rfl rfl rfl rfl rfl rfl (by first | exact CellsAt.boxAll 0 rfl | exact CellsAt.boxAll 1 rfl | exact CellsAt.boxAll 2 rfl | exact CellsAt.boxAll 3 rfl | exact CellsAt.boxAll 4 rfl) rfl rfl (by omega) (fun _ _ => ⟨_, setQ, ?_⟩)))
    | ((with_reducible refine WL.isN_box ?_); first | refine WL.step rfl (StepTo.boxA rfl rfl rfl rfl (fun _ => ?_)) | refine WL.step rfl (StepTo.box1 rfl rfl rfl rfl rfl (fun _ => ?_)))
    | ((with_reducible refine WL.isN_alloc ?_); first | refine WL.step rfl (StepTo.allocA rfl rfl rfl rfl (fun _ => ?_)) | refine WL.step rfl (StepTo.alloc1 rfl rfl rfl rfl rfl (fun _ => ?_)))
    | ((with_reducible refine WL.isN_store ?_); first | refine WL.step rfl (StepTo.st1 rfl rfl rfl rfl rfl rfl ?_) | refine WL.step rfl (StepTo.stA rfl rfl rfl rfl rfl rfl rfl ?_) | refine WL.step rfl (StepTo.stR rfl rfl rfl rfl rfl rfl rfl ?_))
    | ((with_reducible refine WL.isN_bslice ?_); first | refine WL.step rfl (StepTo.buildSlice rfl rfl rfl rfl rfl rfl rfl rfl rfl rfl cellsOfQ (fun _ => ?_)))
    | with_reducible refine WC.block ?_
    | (refine WC.cond rfl (fun hc => ?_) (fun hc => ?_) <;> (try first | (with_reducible replace hc := of_decide_eq_true hc) | (with_reducible replace hc := of_decide_eq_false hc) | (with_reducible replace hc := eqT hc) | (with_reducible replace hc := eqF hc) | (with_reducible replace hc := neT hc) | (with_reducible replace hc := neF hc) | (with_reducible replace hc := noT hc) | (with_reducible replace hc := noF hc)) <;> (try (exfalso; omega))))
    refine WQ.ownRow 1 rfl fun ok own => ?_
    refine WQ.rowVw 1 rfl (by omega) ?_
    exact WQ.body (Reads.tmp rfl rfl) fun w' hw' => fin (.inr h100) ok own (H := []) (hw'.pick (idx := [1]) ⟨by decide, rfl⟩)
  · have hv1 : Value.int .u32 ((Gt.up c p.1 - c) % 4294967296) = .int .u32 (p.1 : Nat) := by congr 1; unfold Gt.up Gt.M; omega
    have hv2 : Value.int .u32 ((Gt.up c p.2 - c) % 4294967296) = .int .u32 (p.2 : Nat) := by congr 1; unfold Gt.up Gt.M; omega
    have hys : flat (pc .u16) ((dr.take i).map fun p => ((p.1 : Int), (p.2 : Int))) ++ [.int .u16 (p.1 : Nat), .int .u16 (p.2 : Nat)] = flat (pc .u16) ((dr.take (i + 1)).map fun p => ((p.1 : Int), (p.2 : Int))) := by
      rw [List.take_add_one, hp, List.map_append, flat_append]; rfl
    repeat' (first
    | refine goS ?_
    | ((with_reducible refine WL.isN_bin ?_); first | refine WL.yld rfl (Yld.as (Yld.pure rfl mU32) hv1) ?_ | refine WL.yld rfl (Yld.as (Yld.pure rfl mU32) hv2) ?_ | refine WL.yld rfl binQ ?_)
    | ((with_reducible refine WL.isN_load ?_); first | refine WL.yld rfl loadQ ?_)
    | ((with_reducible refine WL.isN_iaddr ?_); first | refine WL.yld rfl (Yld.indexS i rfl rfl rfl rfl rfl rfl him) ?_ | refine WL.yld rfl iaddrQ ?_)
    | ((with_reducible refine WL.isN_conv ?_); first | refine WL.yld rfl convQ ?_)
    | ((with_reducible refine WL.isN_build ?_); first | refine WL.yld rfl (Yld.build (cells := #[.int .u16 (p.1 : Nat), .int .u16 (p.2 : Nat)]) rfl rfl rfl) ?_ | refine WL.yld rfl buildQ ?_)
    | ((with_reducible refine WL.isN_call ?_); first | refine WL.step rfl (StepTo.appendTo 2 (flat (pc .u16) ((dr.take (i + 1)).map fun p => ((p.1 : Int), (p.2 : Int)))) rfl rfl rfl rfl rfl rfl rfl rfl rfl rfl rfl rfl (CellsAt.boxAll 0 rfl) rfl rfl (by omega) hys (fun _ _ => ⟨_, setQ, ?_⟩)) | refine WL.yld rfl lenQ ?_ | refine WL.step rfl (StepTo.append 0 rfl rfl rfl rfl rfl rfl rfl rfl rfl rfl rfl rfl (by first | exact CellsAt.boxAll 0 rfl | exact CellsAt.boxAll 1 rfl | exact CellsAt.boxAll 2 rfl | exact CellsAt.boxAll 3 rfl | exact CellsAt.boxAll 4 rfl) rfl rfl (by omega) (fun _ _ => ⟨_, setQ, ?_⟩)) | refine WL.step rfl (StepTo.append 1 rfl rfl rfl rfl rfl rfl rfl rfl rfl rfl rfl rfl (by first | exact CellsAt.boxAll 0 rfl | exact CellsAt.boxAll 1 rfl | exact CellsAt.boxAll 2 rfl | exact CellsAt.boxAll 3 rfl | exact CellsAt.boxAll 4 rfl) rfl rfl (by omega) (fun _ _ => ⟨_, setQ, ?_⟩)) | refine WL.step rfl (StepTo.append 2 rfl rfl rfl rfl rfl rfl rfl rfl rfl rfl rfl rfl (by first | exact CellsAt.boxAll 0 rfl | exact CellsAt.boxAll 1 rfl | exact CellsAt.boxAll 2 rfl | exact CellsAt.boxAll 3 rfl | exact CellsAt.boxAll 4 rfl) rfl rfl (by omega) (fun _ _ => ⟨_, setQ, ?_⟩)) | refine WL.step rfl (StepTo.append 3 rfl rfl rfl rfl rfl rfl rfl rfl rfl rfl rfl rfl (by first | exact CellsAt.boxAll 0 rfl | exact CellsAt.boxAll 1 rfl | exact CellsAt.boxAll 2 rfl | exact CellsAt.boxAll 3 rfl | exact CellsAt.boxAll 4 rfl) rfl rfl (by omega) (fun _ _ => ⟨_, setQ, ?_⟩)) | refine WL.step rfl (StepTo.append 4 rfl rfl rfl rfl rfl rfl rfl rfl rfl rfl rfl rfl (by first | exact CellsAt.boxAll 0 rfl | exact CellsAt.boxAll 1 rfl | exact CellsAt.boxAll 2 rfl | exact CellsAt.boxAll 3 rfl | exact CellsAt.boxAll 4 rfl) rfl rfl (by omega) (fun _ _ => ⟨_, setQ, ?_⟩)) | refine WL.step rfl (StepTo.append 5 rfl rfl rfl rfl rfl rfl rfl rfl rfl rfl rfl rfl (by first | exact CellsAt.boxAll 0 rfl | exact CellsAt.boxAll 1 rfl | exact CellsAt.boxAll 2 rfl | exact CellsAt.boxAll 3 rfl | exact CellsAt.boxAll 4 rfl) rfl rfl (by omega) (fun _ _ => ⟨_, setQ, ?_⟩)) | refine WL.step rfl (StepTo.append 6 rfl rfl rfl rfl rfl rfl rfl rfl rfl rfl rfl rfl (by first | exact CellsAt.boxAll 0 rfl | exact CellsAt.boxAll 1 rfl | exact CellsAt.boxAll 2 rfl | exact CellsAt.boxAll 3 rfl | exact CellsAt.boxAll 4 rfl) rfl rfl (by omega) (fun _ _ => ⟨_, setQ, ?_⟩)))
    | ((with_reducible refine WL.isN_box ?_); first | refine WL.step rfl (StepTo.boxA rfl rfl rfl rfl (fun _ => ?_)) | refine WL.step rfl (StepTo.box1 rfl rfl rfl rfl rfl (fun _ => ?_)))
    | ((with_reducible refine WL.isN_alloc ?_); first | refine WL.step rfl (StepTo.allocA rfl rfl rfl rfl (fun _ => ?_)) | refine WL.step rfl (StepTo.alloc1 rfl rfl rfl rfl rfl (fun _ => ?_)))
    | ((with_reducible refine WL.isN_store ?_); first | refine WL.step rfl (StepTo.st1 rfl rfl rfl rfl rfl rfl ?_) | refine WL.step rfl (StepTo.stA rfl rfl rfl rfl rfl rfl rfl ?_) | refine WL.step rfl (StepTo.stR rfl rfl rfl rfl rfl rfl rfl ?_))
    | ((with_reducible refine WL.isN_bslice ?_); first | refine WL.step rfl (StepTo.buildSlice rfl rfl rfl rfl rfl rfl rfl rfl rfl rfl cellsOfQ (fun _ => ?_)))
    | with_reducible refine WC.block ?_
    | (refine WC.cond rfl (fun hc => ?_) (fun hc => ?_) <;> (try first | (with_reducible replace hc := of_decide_eq_true hc) | (with_reducible replace hc := of_decide_eq_false hc) | (with_reducible replace hc := eqT hc) | (with_reducible replace hc := eqF hc) | (with_reducible replace hc := neT hc) | (with_reducible replace hc := neF hc) | (with_reducible replace hc := noT hc) | (with_reducible replace hc := noF hc)) <;> (try (exfalso; omega))))
    exact WQ.rnd (m7 - (i + 1)) _ _ [2, 3, 4] (by repeat (first | exact Sub.nil | refine Sub.cons rfl ?_ | refine Sub.consE rfl (int_eq (by omega)) ?_)) ⟨by decide, rfl⟩ (by omega) ⟨i + 1, _, _, by omega, by omega, rfl, rfl, rfl⟩
namespace Gt
deriving instance DecidableEq for G
theorem take_e1 : take ⟨4, [], []⟩ 7 = (⟨4, [3], []⟩, true) := by decide
theorem take_e2 : take ⟨4, [3], []⟩ 8 = (⟨4, [3, 4], []⟩, true) := by decide
theorem take_e3 : take ⟨4, [3, 4], []⟩ 5 = (⟨5, [2, 3], []⟩, true) := by decide
theorem take_e4 : take ⟨5, [2, 3], []⟩ 6 = (⟨8, [], []⟩, true) := by decide
theorem gaps_e : gaps [3, 4] = [(3, 4)] := by decide
theorem ok_e0 : G.Ok ⟨4, [], []⟩ := ⟨by decide, Ok.nil, by decide⟩
theorem ok_e1 : G.Ok ⟨4, [3], []⟩ := by have := take_ok ok_e0 7; rwa [take_e1] at this
theorem ok_e2 : G.Ok ⟨4, [3, 4], []⟩ := by have := take_ok ok_e1 8; rwa [take_e2] at this
theorem ok_e3 : G.Ok ⟨5, [2, 3], []⟩ := by have := take_ok ok_e2 5; rwa [take_e3] at this
end Gt
set_option maxHeartbeats 8000000 in
theorem gshown_q (w : World) : Calls Try.prog 10 #[] w fun e w' => e = .returned (.bool true) ∧ Below w.heap.size w w' := by
  have k1 := fun w {V : Nat → Prop} hL hM hVA hVB => take_w (V := V) none 0 0 none 0 0 ⟨4, [], []⟩ 7 w hL hM okA_nil okA_nil (by omega) (by omega) Gt.ok_e0 (by omega) (by omega) hVA hVB
  rw [Gt.take_e1] at k1
  refine enterW (fun _ => False) _ Try.func10 rfl (by simp only [Try.ntmps10, List.length_cons, List.length_nil, Nat.reduceAdd, Nat.reduceSub]; rfl) ?_
  refine WC.nilVw 1 ?_
  refine WC.nilVw 1 ?_
  repeat' (first
    | refine goS ?_
    | ((with_reducible refine WL.isN_bin ?_); first | refine WL.yld rfl binQ ?_)
    | ((with_reducible refine WL.isN_load ?_); first | refine WL.yld rfl loadQ ?_)
    | ((with_reducible refine WL.isN_iaddr ?_); first | refine WL.yld rfl iaddrQ ?_)
    | ((with_reducible refine WL.isN_build ?_); first | refine WL.yld rfl buildQ ?_)
    | ((with_reducible refine WL.isN_call ?_); first | refine WL.step rfl (StepTo.callV (v := gv 4 none 0 0 none 0 0) (us := [.int .u32 5]) rfl rfl rfl rfl rfl (by kernel_rfl) (fun w hw => new_q 5 w) ?_) | refine WL.yld rfl lenQ ?_)
    | ((with_reducible refine WL.isN_alloc ?_); first | refine WL.step rfl (StepTo.allocA rfl rfl rfl rfl (fun _ => ?_)) | refine WL.step rfl (StepTo.alloc1 rfl rfl rfl rfl rfl (fun _ => ?_)))
    | ((with_reducible refine WL.isN_store ?_); first | refine WL.step rfl (StepTo.st1 rfl rfl rfl rfl rfl rfl ?_) | refine WL.step rfl (StepTo.stA rfl rfl rfl rfl rfl rfl rfl ?_) | refine WL.step rfl (StepTo.stR rfl rfl rfl rfl rfl rfl rfl ?_))
    | with_reducible refine WC.block ?_
    | (refine WC.cond rfl (fun hc => ?_) (fun hc => ?_) <;> (try first | (with_reducible replace hc := of_decide_eq_true hc) | (with_reducible replace hc := of_decide_eq_false hc) | (with_reducible replace hc := eqT hc) | (with_reducible replace hc := eqF hc) | (with_reducible replace hc := neT hc) | (with_reducible replace hc := neF hc) | (with_reducible replace hc := noT hc) | (with_reducible replace hc := noF hc)) <;> (try (exfalso; omega))))
  refine WL.step rfl (StepTo.callN [0, 1] (us := [gv 4 none 0 0 none 0 0, .int .u32 7]) rfl rfl rfl rfl rfl (by kernel_rfl) (fun w hw => k1 w (hw.lst 0 (ic_len .u32) (by omega) rfl) (hw.lst 1 (ic_len .u32) (by omega) rfl) (nearV.vs 0 rfl (by simp)) (nearV.vs 1 rfl (by simp))) ?_)
  rintro v N ⟨A1, n1, c1, B1, m1, l1, rfl, oA1, oB1, hn1, hm1, hc1, hl1, rfl⟩
  obtain rfl : n1 = 1 := hn1
  obtain rfl : m1 = 0 := hm1
  dsimp only
  have k2 := fun w {V : Nat → Prop} hL hM hVA hVB => take_w (V := V) A1 1 c1 B1 0 l1 ⟨4, [3], []⟩ 8 w hL hM oA1 oB1 hc1 hl1 Gt.ok_e1 (by omega) (by omega) hVA hVB
  rw [Gt.take_e2] at k2
  repeat' (first
    | refine goS ?_
    | ((with_reducible refine WL.isN_bin ?_); first | refine WL.yld rfl binQ ?_)
    | ((with_reducible refine WL.isN_load ?_); first | refine WL.yld rfl loadQ ?_)
    | ((with_reducible refine WL.isN_iaddr ?_); first | refine WL.yld rfl iaddrQ ?_)
    | ((with_reducible refine WL.isN_build ?_); first | refine WL.yld rfl buildQ ?_)
    | ((with_reducible refine WL.isN_call ?_); first | refine WL.yld rfl lenQ ?_)
    | ((with_reducible refine WL.isN_alloc ?_); first | refine WL.step rfl (StepTo.allocA rfl rfl rfl rfl (fun _ => ?_)) | refine WL.step rfl (StepTo.alloc1 rfl rfl rfl rfl rfl (fun _ => ?_)))
    | ((with_reducible refine WL.isN_store ?_); first | refine WL.step rfl (StepTo.st1 rfl rfl rfl rfl rfl rfl ?_) | refine WL.step rfl (StepTo.stA rfl rfl rfl rfl rfl rfl rfl ?_) | refine WL.step rfl (StepTo.stR rfl rfl rfl rfl rfl rfl rfl ?_))
    | with_reducible refine WC.block ?_
    | (refine WC.cond rfl (fun hc => ?_) (fun hc => ?_) <;> (try first | (with_reducible replace hc := of_decide_eq_true hc) | (with_reducible replace hc := of_decide_eq_false hc) | (with_reducible replace hc := eqT hc) | (with_reducible replace hc := eqF hc) | (with_reducible replace hc := neT hc) | (with_reducible replace hc := neF hc) | (with_reducible replace hc := noT hc) | (with_reducible replace hc := noF hc)) <;> (try (exfalso; omega))))
  refine WL.step rfl (StepTo.callN [1, 2] (us := [gv 4 A1 1 c1 B1 0 l1, .int .u32 8]) rfl rfl rfl rfl rfl (by kernel_rfl) (fun w hw => k2 w (hw.lst 1 (ic_len .u32) (by omega) rfl) (hw.lst 2 (ic_len .u32) (by omega) rfl) (nearV.vs 1 rfl (by simp)) (nearV.vs 2 rfl (by simp))) ?_)
  rintro v N ⟨A2, n2, c2, B2, m2, l2, rfl, oA2, oB2, hn2, hm2, hc2, hl2, rfl⟩
  obtain rfl : n2 = 2 := hn2
  obtain rfl : m2 = 0 := hm2
  dsimp only
  have k3 := fun w {V : Nat → Prop} hL hM hVA hVB => take_w (V := V) A2 2 c2 B2 0 l2 ⟨4, [3, 4], []⟩ 5 w hL hM oA2 oB2 hc2 hl2 Gt.ok_e2 (by omega) (by omega) hVA hVB
  rw [Gt.take_e3] at k3
  have k3g := fun w hL {V : Nat → Prop} => gaps_w (V := V) A2 2 c2 B2 0 l2 4 [3, 4] w hL oA2 Gt.ok_e2.D (by omega)
  unfold GapsR at k3g
  rw [Gt.gaps_e] at k3g
  repeat' (first
    | refine goS ?_
    | ((with_reducible refine WL.isN_bin ?_); first | refine WL.yld rfl binQ ?_)
    | ((with_reducible refine WL.isN_load ?_); first | refine WL.yld rfl loadQ ?_)
    | ((with_reducible refine WL.isN_iaddr ?_); first | refine WL.yld rfl iaddrQ ?_)
    | ((with_reducible refine WL.isN_build ?_); first | refine WL.yld rfl buildQ ?_)
    | ((with_reducible refine WL.isN_call ?_); first | refine WL.yld rfl lenQ ?_)
    | ((with_reducible refine WL.isN_alloc ?_); first | refine WL.step rfl (StepTo.allocA rfl rfl rfl rfl (fun _ => ?_)) | refine WL.step rfl (StepTo.alloc1 rfl rfl rfl rfl rfl (fun _ => ?_)))
    | ((with_reducible refine WL.isN_store ?_); first | refine WL.step rfl (StepTo.st1 rfl rfl rfl rfl rfl rfl ?_) | refine WL.step rfl (StepTo.stA rfl rfl rfl rfl rfl rfl rfl ?_) | refine WL.step rfl (StepTo.stR rfl rfl rfl rfl rfl rfl rfl ?_))
    | with_reducible refine WC.block ?_
    | (refine WC.cond rfl (fun hc => ?_) (fun hc => ?_) <;> (try first | (with_reducible replace hc := of_decide_eq_true hc) | (with_reducible replace hc := of_decide_eq_false hc) | (with_reducible replace hc := eqT hc) | (with_reducible replace hc := eqF hc) | (with_reducible replace hc := neT hc) | (with_reducible replace hc := neF hc) | (with_reducible replace hc := noT hc) | (with_reducible replace hc := noF hc)) <;> (try (exfalso; omega))))
  refine WL.step rfl (StepTo.callN [] (us := [gv 4 A2 2 c2 B2 0 l2]) rfl rfl rfl rfl rfl (by kernel_rfl) (fun w hw => k3g w (hw.lst 1 (ic_len .u32) (by omega) rfl)) ?_)
  rintro v N ⟨Ag, q, kg, rfl, okg, hq, rfl⟩
  obtain rfl : q = 1 := hq
  repeat' (first
    | refine goS ?_
    | ((with_reducible refine WL.isN_bin ?_); first | refine WL.yld rfl binQ ?_)
    | ((with_reducible refine WL.isN_load ?_); first | refine WL.yld rfl loadQ ?_)
    | ((with_reducible refine WL.isN_iaddr ?_); first | refine WL.yld rfl iaddrQ ?_)
    | ((with_reducible refine WL.isN_build ?_); first | refine WL.yld rfl buildQ ?_)
    | ((with_reducible refine WL.isN_call ?_); first | refine WL.yld rfl lenQ ?_)
    | ((with_reducible refine WL.isN_alloc ?_); first | refine WL.step rfl (StepTo.allocA rfl rfl rfl rfl (fun _ => ?_)) | refine WL.step rfl (StepTo.alloc1 rfl rfl rfl rfl rfl (fun _ => ?_)))
    | ((with_reducible refine WL.isN_store ?_); first | refine WL.step rfl (StepTo.st1 rfl rfl rfl rfl rfl rfl ?_) | refine WL.step rfl (StepTo.stA rfl rfl rfl rfl rfl rfl rfl ?_) | refine WL.step rfl (StepTo.stR rfl rfl rfl rfl rfl rfl rfl ?_))
    | with_reducible refine WC.block ?_
    | (refine WC.cond rfl (fun hc => ?_) (fun hc => ?_) <;> (try first | (with_reducible replace hc := of_decide_eq_true hc) | (with_reducible replace hc := of_decide_eq_false hc) | (with_reducible replace hc := eqT hc) | (with_reducible replace hc := eqF hc) | (with_reducible replace hc := neT hc) | (with_reducible replace hc := neF hc) | (with_reducible replace hc := noT hc) | (with_reducible replace hc := noF hc)) <;> (try (exfalso; omega))))
  refine WL.step rfl (StepTo.callN [2, 3] (us := [gv 4 A2 2 c2 B2 0 l2, .int .u32 5]) rfl rfl rfl rfl rfl (by kernel_rfl) (fun w hw => k3 w (hw.lst 2 (ic_len .u32) (by omega) rfl) (hw.lst 3 (ic_len .u32) (by omega) rfl) (nearV.vs 2 rfl (by simp)) (nearV.vs 3 rfl (by simp))) ?_)
  rintro v N ⟨A3, n3, c3, B3, m3, l3, rfl, oA3, oB3, hn3, hm3, hc3, hl3, rfl⟩
  obtain rfl : n3 = 2 := hn3
  obtain rfl : m3 = 0 := hm3
  dsimp only
  have k4 := fun w {V : Nat → Prop} hL hM hVA hVB => take_w (V := V) A3 2 c3 B3 0 l3 ⟨5, [2, 3], []⟩ 6 w hL hM oA3 oB3 hc3 hl3 Gt.ok_e3 (by omega) (by omega) hVA hVB
  rw [Gt.take_e4] at k4
  repeat' (first
    | refine goS ?_
    | ((with_reducible refine WL.isN_bin ?_); first | refine WL.yld rfl binQ ?_)
    | ((with_reducible refine WL.isN_load ?_); first | refine WL.yld rfl loadQ ?_)
    | ((with_reducible refine WL.isN_iaddr ?_); first | refine WL.yld rfl iaddrQ ?_)
    | ((with_reducible refine WL.isN_build ?_); first | refine WL.yld rfl buildQ ?_)
    | ((with_reducible refine WL.isN_call ?_); first | refine WL.yld rfl lenQ ?_)
    | ((with_reducible refine WL.isN_alloc ?_); first | refine WL.step rfl (StepTo.allocA rfl rfl rfl rfl (fun _ => ?_)) | refine WL.step rfl (StepTo.alloc1 rfl rfl rfl rfl rfl (fun _ => ?_)))
    | ((with_reducible refine WL.isN_store ?_); first | refine WL.step rfl (StepTo.st1 rfl rfl rfl rfl rfl rfl ?_) | refine WL.step rfl (StepTo.stA rfl rfl rfl rfl rfl rfl rfl ?_) | refine WL.step rfl (StepTo.stR rfl rfl rfl rfl rfl rfl rfl ?_))
    | with_reducible refine WC.block ?_
    | (refine WC.cond rfl (fun hc => ?_) (fun hc => ?_) <;> (try first | (with_reducible replace hc := of_decide_eq_true hc) | (with_reducible replace hc := of_decide_eq_false hc) | (with_reducible replace hc := eqT hc) | (with_reducible replace hc := eqF hc) | (with_reducible replace hc := neT hc) | (with_reducible replace hc := neF hc) | (with_reducible replace hc := noT hc) | (with_reducible replace hc := noF hc)) <;> (try (exfalso; omega))))
  refine WL.step rfl (StepTo.callN [1, 2] (us := [gv 5 A3 2 c3 B3 0 l3, .int .u32 6]) rfl rfl rfl rfl rfl (by kernel_rfl) (fun w hw => k4 w (hw.lst 1 (ic_len .u32) (by omega) rfl) (hw.lst 2 (ic_len .u32) (by omega) rfl) (nearV.vs 1 rfl (by simp)) (nearV.vs 2 rfl (by simp))) ?_)
  rintro v N ⟨A4, n4, c4, B4, m4, l4, rfl, oA4, oB4, hn4, hm4, hc4, hl4, rfl⟩
  obtain rfl : n4 = 0 := hn4
  obtain rfl : m4 = 0 := hm4
  dsimp only
  have hgy : PartAt (flat (pc .u16) [(3, 4)]) (0 * 2) [.int .u16 3, .int .u16 4] := show PartAt _ (0 * 2) (pc .u16 (3, 4)) from PartAt.flat (pc_len .u16) rfl
  refine WL.vwAt 5 rfl (by omega) fun ba oa hA => ?_
  subst hA
  repeat' (first
    | refine goS ?_
    | ((with_reducible refine WL.isN_bin ?_); first | refine WL.yld rfl (Yld.as (Yld.eqlArr [3, 4] [3, 4] rfl rfl rfl rfl rfl rfl rfl rfl rfl) rfl) ?_ | refine WL.yld rfl binQ ?_)
    | ((with_reducible refine WL.isN_load ?_); first | refine WL.yld rfl loadQ ?_)
    | ((with_reducible refine WL.isN_iaddr ?_); first | refine WL.yld rfl iaddrQ ?_)
    | ((with_reducible refine WL.isN_build ?_); first | refine WL.yld rfl (Yld.build (cells := #[.int .u16 3, .int .u16 4]) rfl rfl rfl) ?_ | refine WL.yld rfl buildQ ?_)
    | ((with_reducible refine WL.isN_call ?_); first | refine WL.yld rfl lenQ ?_)
    | ((with_reducible refine WL.isN_alloc ?_); first | refine WL.step rfl (StepTo.allocA rfl rfl rfl rfl (fun _ => ?_)) | refine WL.step rfl (StepTo.alloc1 rfl rfl rfl rfl rfl (fun _ => ?_)))
    | ((with_reducible refine WL.isN_store ?_); first | refine WL.step rfl (StepTo.st1 rfl rfl rfl rfl rfl rfl ?_) | refine WL.step rfl (StepTo.stA rfl rfl rfl rfl rfl rfl rfl ?_) | refine WL.step rfl (StepTo.stR rfl rfl rfl rfl rfl rfl rfl ?_))
    | with_reducible refine WC.block ?_
    | (refine WC.cond rfl (fun hc => ?_) (fun hc => ?_) <;> (try first | (with_reducible replace hc := of_decide_eq_true hc) | (with_reducible replace hc := of_decide_eq_false hc) | (with_reducible replace hc := eqT hc) | (with_reducible replace hc := eqF hc) | (with_reducible replace hc := neT hc) | (with_reducible replace hc := neF hc) | (with_reducible replace hc := noT hc) | (with_reducible replace hc := noF hc)) <;> (try (exfalso; omega))))
  exact WQ.body (Reads.tmp rfl rfl) fun w' hw' => ⟨rfl, hw'.ext.below⟩
end Go.Proofs.Ythbhjnmkbmmcnaa
