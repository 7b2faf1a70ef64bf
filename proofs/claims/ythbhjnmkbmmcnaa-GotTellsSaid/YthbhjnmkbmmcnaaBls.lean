/- strings.Builder: copyCheck, WriteString, WriteByte, Len, String, of a builder that lies at the head of a variable. -/
import Derived.Test.YthbhjnmkbmmcnaaFz
import Derived.Test.YthbhjnmkbmmcnaaChecked
namespace Go.Proofs.Ythbhjnmkbmmcnaa
open Go.RowKit
set_option linter.unusedVariables false
set_option maxRecDepth 100000

/-- A builder may lie at the head of such a variable. -/
def BldT (T : Nat) : Prop := liesAt Try.prog Try.prog.depth T (2 / Try.prog.cellsOf T) 0 91 1 = true
theorem inp_box {w0 w : World} {D : Nat → Prop} {H : List Item} (hw : Sat w0 D H w) (i : Nat) {b T : Nat} {cs : List Value} (hi : H[i]? = some (.box b T cs)) : InpAt w b 0 cs := fun j u hu => by
  have h : w.heap[b]? = some (.cells cs.toArray T (0, 0)) := hw.holds _ (List.mem_of_getElem? hi)
  rw [Nat.zero_add, cell_of_row w b j cs.toArray T (0, 0) h]
  simpa using hu
theorem escape_run (v : Value) (w : World) : (callFunc 88 #[v]).run Try.prog w = .ok (.value v) w := by
  rw [run_callFunc_extern Try.func88 (by kernel_rfl) (by kernel_rfl) (by kernel_rfl) (e := Extern.AbiNoEscape.same) (by kernel_rfl), Lib.run_noEscape]
  rfl
theorem copyCheck_w (b T : Nat) (p : Option Addr) (s : Value) (hp : p = none ∨ p = some ⟨b, 0, none⟩) (hT : BldT T) (w : World) (hS : Sat w (Bs [.box b T [.pointer p, s]]) [.box b T [.pointer p, s]] w) :
    Calls Try.prog 73 #[.pointer (some ⟨b, 0, none⟩)] w
      fun e w' => ∃ v N, e = .returned v ∧ (v = .tuple #[] ∧ N = [.box b T [.pointer (some ⟨b, 0, none⟩), s]]) ∧ Mod (Bs [.box b T [.pointer p, s]]) N w w' := by
  refine enterM _ _ hS Try.func73 rfl (by simp only [Try.ntmps73, List.length_cons, List.length_nil, Nat.reduceAdd, Nat.reduceSub]; rfl) ?_
  rcases hp with rfl | rfl
  · repeat' (first
    | refine goS ?_
    | ((with_reducible refine WL.isN_bin ?_); first | refine WL.yld rfl (Yld.eqlPtrNil rfl rfl rfl (by kernel_rfl)) ?_ | refine WL.yld rfl (Yld.neqPtrSame rfl rfl rfl rfl (by kernel_rfl)) ?_ | refine WL.yld rfl binQ ?_)
    | ((with_reducible refine WL.isN_load ?_); first | refine WL.yld rfl loadQ ?_)
    | ((with_reducible refine WL.isN_conv ?_); first | refine WL.yld rfl (Yld.toUnsafe 0 rfl rfl rfl rfl rfl (by kernel_rfl) (by simp)) ?_ | refine WL.yld rfl (Yld.fromUnsafe 0 rfl rfl rfl rfl rfl (by kernel_rfl) hT) ?_ | refine WL.yld rfl convQ ?_)
    | ((with_reducible refine WL.isN_call ?_); first | refine WL.yld rfl (Yld.outer rfl rfl rfl (escape_run _)) ?_)
    | ((with_reducible refine WL.isN_store ?_); first | refine WL.step rfl (StepTo.st1 rfl rfl rfl rfl rfl rfl ?_) | refine WL.step rfl (StepTo.stA rfl rfl rfl rfl rfl rfl rfl ?_) | refine WL.step rfl (StepTo.stR rfl rfl rfl rfl rfl rfl rfl ?_))
    | with_reducible refine WC.block ?_
    | (refine WC.cond rfl (fun hc => ?_) (fun hc => ?_) <;> (try first | (with_reducible replace hc := of_decide_eq_true hc) | (with_reducible replace hc := of_decide_eq_false hc) | (with_reducible replace hc := eqT hc) | (with_reducible replace hc := eqF hc) | (with_reducible replace hc := neT hc) | (with_reducible replace hc := neF hc) | (with_reducible replace hc := noT hc) | (with_reducible replace hc := noF hc)) <;> (try (exfalso; omega))))
    exact WQ.bodyN (Reads.none rfl) fun w' hw' => ⟨_, _, rfl, ⟨rfl, rfl⟩, hw'.toMod (by simp [Item.mine])⟩
  · repeat' (first
    | refine goS ?_
    | ((with_reducible refine WL.isN_bin ?_); first | refine WL.yld rfl (Yld.eqlPtrNil rfl rfl rfl (by kernel_rfl)) ?_ | refine WL.yld rfl (Yld.neqPtrSame rfl rfl rfl rfl (by kernel_rfl)) ?_ | refine WL.yld rfl binQ ?_)
    | ((with_reducible refine WL.isN_load ?_); first | refine WL.yld rfl loadQ ?_)
    | ((with_reducible refine WL.isN_conv ?_); first | refine WL.yld rfl (Yld.toUnsafe 0 rfl rfl rfl rfl rfl (by kernel_rfl) (by simp)) ?_ | refine WL.yld rfl (Yld.fromUnsafe 0 rfl rfl rfl rfl rfl (by kernel_rfl) hT) ?_ | refine WL.yld rfl convQ ?_)
    | ((with_reducible refine WL.isN_call ?_); first | refine WL.yld rfl (Yld.outer rfl rfl rfl (escape_run _)) ?_)
    | ((with_reducible refine WL.isN_store ?_); first | refine WL.step rfl (StepTo.st1 rfl rfl rfl rfl rfl rfl ?_) | refine WL.step rfl (StepTo.stA rfl rfl rfl rfl rfl rfl rfl ?_) | refine WL.step rfl (StepTo.stR rfl rfl rfl rfl rfl rfl rfl ?_))
    | with_reducible refine WC.block ?_
    | (refine WC.cond rfl (fun hc => ?_) (fun hc => ?_) <;> (try first | (with_reducible replace hc := of_decide_eq_true hc) | (with_reducible replace hc := of_decide_eq_false hc) | (with_reducible replace hc := eqT hc) | (with_reducible replace hc := eqF hc) | (with_reducible replace hc := neT hc) | (with_reducible replace hc := neF hc) | (with_reducible replace hc := noT hc) | (with_reducible replace hc := noF hc)) <;> (try (exfalso; omega))))
    exact WQ.bodyN (Reads.none rfl) fun w' hw' => ⟨_, _, rfl, ⟨rfl, rfl⟩, hw'.toMod (by simp [Item.mine])⟩
/-- What a write leaves of a builder. -/
def BldR (b T : Nat) (l : List UInt8) (N : List Item) : Prop := ∃ A c, (l.length = 0 → A = none) ∧ N = [.box b T [.pointer (some ⟨b, 0, none⟩), .slice A l.length c], .fz A l.length c 5 1 (l.map bv)]
theorem bwrs_w (b T : Nat) (p A : Option Addr) (c : Nat) (l s : List UInt8) (hp : p = none ∨ p = some ⟨b, 0, none⟩) (hT : BldT T) (hA : l.length = 0 → A = none) (hl : l.length + s.length ≤ 140737488355328) (w : World)
    (hS : Sat w (Bs [.box b T [.pointer p, .slice A l.length c], .fz A l.length c 5 1 (l.map bv)]) [.box b T [.pointer p, .slice A l.length c], .fz A l.length c 5 1 (l.map bv)] w) :
    Calls Try.prog 58 #[.pointer (some ⟨b, 0, none⟩), .string (bs s)] w
      fun e w' => ∃ v N, e = .returned v ∧ (v = .tuple #[.int .i64 s.length, .nilIface] ∧ BldR b T (l ++ s) N) ∧ Mod (Bs [.box b T [.pointer p, .slice A l.length c], .fz A l.length c 5 1 (l.map bv)]) N w w' := by
  refine enterM _ _ hS Try.func58 rfl (by simp only [Try.ntmps58, List.length_cons, List.length_nil, Nat.reduceAdd, Nat.reduceSub]; rfl) ?_
  repeat' (first
    | refine goS ?_
    | ((with_reducible refine WL.isN_load ?_); first | refine WL.yld rfl loadQ ?_)
    | ((with_reducible refine WL.isN_call ?_); first | refine WL.step rfl (StepTo.callP (us := [.pointer (some ⟨b, 0, none⟩)]) [0] [1] ⟨by decide, rfl⟩ rfl ⟨by decide, rfl⟩ rfl rfl rfl rfl rfl rfl (by kernel_rfl) (fun w hw hS => copyCheck_w b T p _ hp hT w hS) ?_) | refine WL.yld rfl lenQ ?_ | refine WL.step rfl (StepTo.append 0 rfl rfl rfl rfl rfl rfl rfl rfl rfl rfl rfl rfl (by first | exact CellsAt.boxAll 0 rfl | exact CellsAt.boxAll 1 rfl | exact CellsAt.boxAll 2 rfl | exact CellsAt.boxAll 3 rfl | exact CellsAt.boxAll 4 rfl) rfl rfl (by omega) (fun _ _ => ⟨_, setQ, ?_⟩)) | refine WL.step rfl (StepTo.append 1 rfl rfl rfl rfl rfl rfl rfl rfl rfl rfl rfl rfl (by first | exact CellsAt.boxAll 0 rfl | exact CellsAt.boxAll 1 rfl | exact CellsAt.boxAll 2 rfl | exact CellsAt.boxAll 3 rfl | exact CellsAt.boxAll 4 rfl) rfl rfl (by omega) (fun _ _ => ⟨_, setQ, ?_⟩)) | refine WL.step rfl (StepTo.append 2 rfl rfl rfl rfl rfl rfl rfl rfl rfl rfl rfl rfl (by first | exact CellsAt.boxAll 0 rfl | exact CellsAt.boxAll 1 rfl | exact CellsAt.boxAll 2 rfl | exact CellsAt.boxAll 3 rfl | exact CellsAt.boxAll 4 rfl) rfl rfl (by omega) (fun _ _ => ⟨_, setQ, ?_⟩)) | refine WL.step rfl (StepTo.append 3 rfl rfl rfl rfl rfl rfl rfl rfl rfl rfl rfl rfl (by first | exact CellsAt.boxAll 0 rfl | exact CellsAt.boxAll 1 rfl | exact CellsAt.boxAll 2 rfl | exact CellsAt.boxAll 3 rfl | exact CellsAt.boxAll 4 rfl) rfl rfl (by omega) (fun _ _ => ⟨_, setQ, ?_⟩)) | refine WL.step rfl (StepTo.append 4 rfl rfl rfl rfl rfl rfl rfl rfl rfl rfl rfl rfl (by first | exact CellsAt.boxAll 0 rfl | exact CellsAt.boxAll 1 rfl | exact CellsAt.boxAll 2 rfl | exact CellsAt.boxAll 3 rfl | exact CellsAt.boxAll 4 rfl) rfl rfl (by omega) (fun _ _ => ⟨_, setQ, ?_⟩)) | refine WL.step rfl (StepTo.append 5 rfl rfl rfl rfl rfl rfl rfl rfl rfl rfl rfl rfl (by first | exact CellsAt.boxAll 0 rfl | exact CellsAt.boxAll 1 rfl | exact CellsAt.boxAll 2 rfl | exact CellsAt.boxAll 3 rfl | exact CellsAt.boxAll 4 rfl) rfl rfl (by omega) (fun _ _ => ⟨_, setQ, ?_⟩)) | refine WL.step rfl (StepTo.append 6 rfl rfl rfl rfl rfl rfl rfl rfl rfl rfl rfl rfl (by first | exact CellsAt.boxAll 0 rfl | exact CellsAt.boxAll 1 rfl | exact CellsAt.boxAll 2 rfl | exact CellsAt.boxAll 3 rfl | exact CellsAt.boxAll 4 rfl) rfl rfl (by omega) (fun _ _ => ⟨_, setQ, ?_⟩)))
    | ((with_reducible refine WL.isN_store ?_); first | refine WL.step rfl (StepTo.st1 rfl rfl rfl rfl rfl rfl ?_) | refine WL.step rfl (StepTo.stA rfl rfl rfl rfl rfl rfl rfl ?_) | refine WL.step rfl (StepTo.stR rfl rfl rfl rfl rfl rfl rfl ?_))
    | with_reducible refine WC.block ?_
    | (refine WC.cond rfl (fun hc => ?_) (fun hc => ?_) <;> (try first | (with_reducible replace hc := of_decide_eq_true hc) | (with_reducible replace hc := of_decide_eq_false hc) | (with_reducible replace hc := eqT hc) | (with_reducible replace hc := eqF hc) | (with_reducible replace hc := neT hc) | (with_reducible replace hc := neF hc) | (with_reducible replace hc := noT hc) | (with_reducible replace hc := noF hc)) <;> (try (exfalso; omega))))
  rintro v N ⟨rfl, rfl⟩
  repeat' (first
    | refine goS ?_
    | ((with_reducible refine WL.isN_load ?_); first | refine WL.yld rfl loadQ ?_)
    | ((with_reducible refine WL.isN_call ?_); first | refine WL.step rfl (StepTo.appendStr 1 rfl rfl rfl rfl rfl rfl rfl rfl (by kernel_rfl) (by omega) (fun A' c' hA' => ⟨_, setQ, ?_⟩)) | refine WL.yld rfl (Yld.lenB rfl rfl rfl) ?_ | refine WL.yld rfl lenQ ?_ | refine WL.step rfl (StepTo.append 0 rfl rfl rfl rfl rfl rfl rfl rfl rfl rfl rfl rfl (by first | exact CellsAt.boxAll 0 rfl | exact CellsAt.boxAll 1 rfl | exact CellsAt.boxAll 2 rfl | exact CellsAt.boxAll 3 rfl | exact CellsAt.boxAll 4 rfl) rfl rfl (by omega) (fun _ _ => ⟨_, setQ, ?_⟩)) | refine WL.step rfl (StepTo.append 1 rfl rfl rfl rfl rfl rfl rfl rfl rfl rfl rfl rfl (by first | exact CellsAt.boxAll 0 rfl | exact CellsAt.boxAll 1 rfl | exact CellsAt.boxAll 2 rfl | exact CellsAt.boxAll 3 rfl | exact CellsAt.boxAll 4 rfl) rfl rfl (by omega) (fun _ _ => ⟨_, setQ, ?_⟩)) | refine WL.step rfl (StepTo.append 2 rfl rfl rfl rfl rfl rfl rfl rfl rfl rfl rfl rfl (by first | exact CellsAt.boxAll 0 rfl | exact CellsAt.boxAll 1 rfl | exact CellsAt.boxAll 2 rfl | exact CellsAt.boxAll 3 rfl | exact CellsAt.boxAll 4 rfl) rfl rfl (by omega) (fun _ _ => ⟨_, setQ, ?_⟩)) | refine WL.step rfl (StepTo.append 3 rfl rfl rfl rfl rfl rfl rfl rfl rfl rfl rfl rfl (by first | exact CellsAt.boxAll 0 rfl | exact CellsAt.boxAll 1 rfl | exact CellsAt.boxAll 2 rfl | exact CellsAt.boxAll 3 rfl | exact CellsAt.boxAll 4 rfl) rfl rfl (by omega) (fun _ _ => ⟨_, setQ, ?_⟩)) | refine WL.step rfl (StepTo.append 4 rfl rfl rfl rfl rfl rfl rfl rfl rfl rfl rfl rfl (by first | exact CellsAt.boxAll 0 rfl | exact CellsAt.boxAll 1 rfl | exact CellsAt.boxAll 2 rfl | exact CellsAt.boxAll 3 rfl | exact CellsAt.boxAll 4 rfl) rfl rfl (by omega) (fun _ _ => ⟨_, setQ, ?_⟩)) | refine WL.step rfl (StepTo.append 5 rfl rfl rfl rfl rfl rfl rfl rfl rfl rfl rfl rfl (by first | exact CellsAt.boxAll 0 rfl | exact CellsAt.boxAll 1 rfl | exact CellsAt.boxAll 2 rfl | exact CellsAt.boxAll 3 rfl | exact CellsAt.boxAll 4 rfl) rfl rfl (by omega) (fun _ _ => ⟨_, setQ, ?_⟩)) | refine WL.step rfl (StepTo.append 6 rfl rfl rfl rfl rfl rfl rfl rfl rfl rfl rfl rfl (by first | exact CellsAt.boxAll 0 rfl | exact CellsAt.boxAll 1 rfl | exact CellsAt.boxAll 2 rfl | exact CellsAt.boxAll 3 rfl | exact CellsAt.boxAll 4 rfl) rfl rfl (by omega) (fun _ _ => ⟨_, setQ, ?_⟩)))
    | ((with_reducible refine WL.isN_store ?_); first | refine WL.step rfl (StepTo.st1 rfl rfl rfl rfl rfl rfl ?_) | refine WL.step rfl (StepTo.stA rfl rfl rfl rfl rfl rfl rfl ?_) | refine WL.step rfl (StepTo.stR rfl rfl rfl rfl rfl rfl rfl ?_))
    | with_reducible refine WC.block ?_
    | (refine WC.cond rfl (fun hc => ?_) (fun hc => ?_) <;> (try first | (with_reducible replace hc := of_decide_eq_true hc) | (with_reducible replace hc := of_decide_eq_false hc) | (with_reducible replace hc := eqT hc) | (with_reducible replace hc := eqF hc) | (with_reducible replace hc := neT hc) | (with_reducible replace hc := neF hc) | (with_reducible replace hc := noT hc) | (with_reducible replace hc := noF hc)) <;> (try (exfalso; omega))))
  refine WQ.body (Reads.tmp2 rfl rfl rfl) fun w' hw' => ⟨_, [.box b T [.pointer (some ⟨b, 0, none⟩), .slice A' (l.length + s.length) c'], .fz A' (l.length + s.length) c' 5 1 (l.map bv ++ s.map bv)], rfl, ⟨rfl, A', c', ?_, ?_⟩, (hw'.pick (idx := [0, 1]) ⟨by decide, rfl⟩).toMod (by simp [Item.mine])⟩
  · rw [List.length_append]; exact hA' hA
  · rw [List.length_append, List.map_append]
theorem bstr_w (b T : Nat) (p A : Option Addr) (c : Nat) (l : List UInt8) (hA : l.length = 0 → A = none) (w : World)
    (hS : Sat w (Bs [.box b T [.pointer p, .slice A l.length c], .fz A l.length c 5 1 (l.map bv)]) [.box b T [.pointer p, .slice A l.length c], .fz A l.length c 5 1 (l.map bv)] w) :
    Calls Try.prog 61 #[.pointer (some ⟨b, 0, none⟩)] w
      fun e w' => ∃ v N, e = .returned v ∧ (v = .string (bs l) ∧ N = [.box b T [.pointer p, .slice A l.length c], .fz A l.length c 5 1 (l.map bv)]) ∧ Mod (Bs [.box b T [.pointer p, .slice A l.length c], .fz A l.length c 5 1 (l.map bv)]) N w w' := by
  refine enterM _ _ hS Try.func61 rfl (by simp only [Try.ntmps61, List.length_cons, List.length_nil, Nat.reduceAdd, Nat.reduceSub]; rfl) ?_
  by_cases h0 : l.length = 0
  · obtain rfl := hA h0
    obtain rfl : l = [] := List.eq_nil_of_length_eq_zero h0
    repeat' (first
    | refine goS ?_
    | ((with_reducible refine WL.isN_load ?_); first | refine WL.yld rfl loadQ ?_)
    | ((with_reducible refine WL.isN_call ?_); first | refine WL.yld rfl lenQ ?_ | refine WL.yld rfl (Yld.sliceDataNil rfl rfl) ?_ | refine WL.yld rfl (Yld.sliceData rfl rfl (by omega)) ?_)
    | with_reducible refine WC.block ?_
    | (refine WC.cond rfl (fun hc => ?_) (fun hc => ?_) <;> (try first | (with_reducible replace hc := of_decide_eq_true hc) | (with_reducible replace hc := of_decide_eq_false hc) | (with_reducible replace hc := eqT hc) | (with_reducible replace hc := eqF hc) | (with_reducible replace hc := neT hc) | (with_reducible replace hc := neF hc) | (with_reducible replace hc := noT hc) | (with_reducible replace hc := noF hc)) <;> (try (exfalso; omega))))
    refine WC.anyI [0] (by kernel_rfl) ?_
    refine WA.take (idx := [0]) 0 rfl (by kernel_rfl) (by kernel_rfl) (by kernel_rfl) rfl ⟨by decide, rfl⟩ (Yld.pure rfl nrmQ) ?_
    refine WA.take (idx := [0]) 1 rfl (by kernel_rfl) (by kernel_rfl) (by kernel_rfl) rfl ⟨by decide, rfl⟩ (Yld.pure rfl nrmQ) ?_
    refine WA.take (idx := [0]) 2 rfl (by kernel_rfl) (by kernel_rfl) (by kernel_rfl) rfl ⟨by decide, rfl⟩ (Yld.fieldAddr rfl rfl rfl rfl rfl rfl rfl) ?_
    refine WA.take (idx := [0]) 3 rfl (by kernel_rfl) (by kernel_rfl) (by kernel_rfl) rfl ⟨by decide, rfl⟩ (by first | exact Yld.load rfl rfl rfl rfl cellQ | exact Yld.loadAgg rfl rfl rfl rfl rfl aggQ) ?_
    refine WA.take (idx := [0]) 4 rfl (by kernel_rfl) (by kernel_rfl) (by kernel_rfl) rfl ⟨by decide, rfl⟩ (by first | exact Yld.sliceDataNil rfl rfl | exact Yld.sliceData rfl rfl (by omega)) ?_
    refine WA.take (idx := [0]) 5 rfl (by kernel_rfl) (by kernel_rfl) (by kernel_rfl) rfl ⟨by decide, rfl⟩ (Yld.pure rfl nrmQ) ?_
    refine WA.take (idx := [0]) 6 rfl (by kernel_rfl) (by kernel_rfl) (by kernel_rfl) rfl ⟨by decide, rfl⟩ (Yld.pure rfl nrmQ) ?_
    refine WA.take (idx := [0]) 7 rfl (by kernel_rfl) (by kernel_rfl) (by kernel_rfl) rfl ⟨by decide, rfl⟩ (Yld.fieldAddr rfl rfl rfl rfl rfl rfl rfl) ?_
    refine WA.take (idx := [0]) 8 rfl (by kernel_rfl) (by kernel_rfl) (by kernel_rfl) rfl ⟨by decide, rfl⟩ (by first | exact Yld.load rfl rfl rfl rfl cellQ | exact Yld.loadAgg rfl rfl rfl rfl rfl aggQ) ?_
    refine WA.take (idx := [0]) 9 rfl (by kernel_rfl) (by kernel_rfl) (by kernel_rfl) rfl ⟨by decide, rfl⟩ (by first | exact Yld.lenSlice rfl rfl rfl | exact Yld.lenStr rfl rfl rfl) ?_
    refine WA.one 10 (by kernel_rfl) rfl rfl ?_
    refine StepTo.yld (Yld.unsafeNone rfl rfl rfl) rfl ⟨⟨[0], by decide, rfl⟩, ?_⟩
    refine WA.take (idx := [0]) 11 rfl (by kernel_rfl) (by kernel_rfl) (by kernel_rfl) rfl ⟨by decide, rfl⟩ (Yld.pure rfl nrmQ) ?_
    refine WA.done (by kernel_rfl) ?_
    repeat' (first
    | refine goS ?_
    | ((with_reducible refine WL.isN_load ?_); first | refine WL.yld rfl loadQ ?_)
    | ((with_reducible refine WL.isN_call ?_); first | refine WL.yld rfl lenQ ?_ | refine WL.yld rfl (Yld.sliceDataNil rfl rfl) ?_ | refine WL.yld rfl (Yld.sliceData rfl rfl (by omega)) ?_)
    | with_reducible refine WC.block ?_
    | (refine WC.cond rfl (fun hc => ?_) (fun hc => ?_) <;> (try first | (with_reducible replace hc := of_decide_eq_true hc) | (with_reducible replace hc := of_decide_eq_false hc) | (with_reducible replace hc := eqT hc) | (with_reducible replace hc := eqF hc) | (with_reducible replace hc := neT hc) | (with_reducible replace hc := neF hc) | (with_reducible replace hc := noT hc) | (with_reducible replace hc := noF hc)) <;> (try (exfalso; omega))))
    exact WQ.body (Reads.tmp rfl rfl) fun w' hw' => ⟨_, _, rfl, ⟨rfl, rfl⟩, hw'.toMod (by simp [Item.mine])⟩
  · refine WC.fzAt 1 rfl (by omega) fun g hg hc => ?_
    subst hg
    repeat' (first
    | refine goS ?_
    | ((with_reducible refine WL.isN_load ?_); first | refine WL.yld rfl loadQ ?_)
    | ((with_reducible refine WL.isN_call ?_); first | refine WL.yld rfl lenQ ?_ | refine WL.yld rfl (Yld.sliceDataNil rfl rfl) ?_ | refine WL.yld rfl (Yld.sliceData rfl rfl (by omega)) ?_)
    | with_reducible refine WC.block ?_
    | (refine WC.cond rfl (fun hc => ?_) (fun hc => ?_) <;> (try first | (with_reducible replace hc := of_decide_eq_true hc) | (with_reducible replace hc := of_decide_eq_false hc) | (with_reducible replace hc := eqT hc) | (with_reducible replace hc := eqF hc) | (with_reducible replace hc := neT hc) | (with_reducible replace hc := neF hc) | (with_reducible replace hc := noT hc) | (with_reducible replace hc := noF hc)) <;> (try (exfalso; omega))))
    refine WC.anyI [0] (by kernel_rfl) ?_
    refine WA.take (idx := [0]) 0 rfl (by kernel_rfl) (by kernel_rfl) (by kernel_rfl) rfl ⟨by decide, rfl⟩ (Yld.pure rfl nrmQ) ?_
    refine WA.take (idx := [0]) 1 rfl (by kernel_rfl) (by kernel_rfl) (by kernel_rfl) rfl ⟨by decide, rfl⟩ (Yld.pure rfl nrmQ) ?_
    refine WA.take (idx := [0]) 2 rfl (by kernel_rfl) (by kernel_rfl) (by kernel_rfl) rfl ⟨by decide, rfl⟩ (Yld.fieldAddr rfl rfl rfl rfl rfl rfl rfl) ?_
    refine WA.take (idx := [0]) 3 rfl (by kernel_rfl) (by kernel_rfl) (by kernel_rfl) rfl ⟨by decide, rfl⟩ (by first | exact Yld.load rfl rfl rfl rfl cellQ | exact Yld.loadAgg rfl rfl rfl rfl rfl aggQ) ?_
    refine WA.take (idx := [0]) 4 rfl (by kernel_rfl) (by kernel_rfl) (by kernel_rfl) rfl ⟨by decide, rfl⟩ (by first | exact Yld.sliceDataNil rfl rfl | exact Yld.sliceData rfl rfl (by omega)) ?_
    refine WA.take (idx := [0]) 5 rfl (by kernel_rfl) (by kernel_rfl) (by kernel_rfl) rfl ⟨by decide, rfl⟩ (Yld.pure rfl nrmQ) ?_
    refine WA.take (idx := [0]) 6 rfl (by kernel_rfl) (by kernel_rfl) (by kernel_rfl) rfl ⟨by decide, rfl⟩ (Yld.pure rfl nrmQ) ?_
    refine WA.take (idx := [0]) 7 rfl (by kernel_rfl) (by kernel_rfl) (by kernel_rfl) rfl ⟨by decide, rfl⟩ (Yld.fieldAddr rfl rfl rfl rfl rfl rfl rfl) ?_
    refine WA.take (idx := [0]) 8 rfl (by kernel_rfl) (by kernel_rfl) (by kernel_rfl) rfl ⟨by decide, rfl⟩ (by first | exact Yld.load rfl rfl rfl rfl cellQ | exact Yld.loadAgg rfl rfl rfl rfl rfl aggQ) ?_
    refine WA.take (idx := [0]) 9 rfl (by kernel_rfl) (by kernel_rfl) (by kernel_rfl) rfl ⟨by decide, rfl⟩ (by first | exact Yld.lenSlice rfl rfl rfl | exact Yld.lenStr rfl rfl rfl) ?_
    refine WA.one 10 (by kernel_rfl) rfl rfl ?_
    refine StepTo.unsafeStr (e := 5) 1 rfl rfl rfl rfl rfl rfl rfl (by kernel_rfl) (by omega) ⟨⟨[0], by decide, rfl⟩, ?_⟩
    refine WA.take (idx := [0]) 11 rfl (by kernel_rfl) (by kernel_rfl) (by kernel_rfl) rfl ⟨by decide, rfl⟩ (Yld.pure rfl nrmQ) ?_
    refine WA.done (by kernel_rfl) ?_
    repeat' (first
    | refine goS ?_
    | ((with_reducible refine WL.isN_load ?_); first | refine WL.yld rfl loadQ ?_)
    | ((with_reducible refine WL.isN_call ?_); first | refine WL.yld rfl lenQ ?_ | refine WL.yld rfl (Yld.sliceDataNil rfl rfl) ?_ | refine WL.yld rfl (Yld.sliceData rfl rfl (by omega)) ?_)
    | with_reducible refine WC.block ?_
    | (refine WC.cond rfl (fun hc => ?_) (fun hc => ?_) <;> (try first | (with_reducible replace hc := of_decide_eq_true hc) | (with_reducible replace hc := of_decide_eq_false hc) | (with_reducible replace hc := eqT hc) | (with_reducible replace hc := eqF hc) | (with_reducible replace hc := neT hc) | (with_reducible replace hc := neF hc) | (with_reducible replace hc := noT hc) | (with_reducible replace hc := noF hc)) <;> (try (exfalso; omega))))
    exact WQ.body (Reads.tmp rfl rfl) fun w' hw' => ⟨_, _, rfl, ⟨rfl, rfl⟩, hw'.toMod (by simp [Item.mine])⟩
end Go.Proofs.Ythbhjnmkbmmcnaa
