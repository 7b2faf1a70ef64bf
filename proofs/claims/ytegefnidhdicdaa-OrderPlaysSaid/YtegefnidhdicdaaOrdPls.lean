/- 'Skip' of the program at any queue; what is plain of what it computes. -/
import Derived.Test.YtegefnidhdicdaaOrdRsk
import Derived.Test.YtegefnidhdicdaaOrdSkW
namespace Go.Proofs.Ytegefnidhdicdaa
open Go.RowKit
set_option linter.unusedVariables false

theorem skip_w (AN AW : Option Addr) (kN cN nW cW : Nat) (s to : Int) (next : List Int) (wait : List Msg) (w : World) (hk : kN ≤ 65535) (hn : nW < 100000)
    (hN : Us w w.heap.size AN kN next) (hW : Ms w w.heap.size AW nW wait) (oN : okA AN kN) (oW : okA AW nW) (hr : ∀ x ∈ next, 0 ≤ x ∧ x ≤ 65535) (hu : ∀ m ∈ wait, U16M m) (q0 : 0 ≤ to) (q1 : to ≤ 65535) {V : Nat → Prop} :
    Calls Try.prog 14 #[.agg #[.slice AN kN cN, .slice AW nW cW], .int .i64 s, .int .u16 to] w
      fun e w' => ∃ v N, e = .returned v ∧ PutR (skipF next wait s to) v N ∧ New V N w w' := by
  have lN := hN.len
  have lW := hW.len
  generalize hR : skipF next wait s to = R
  unfold skipF at hR
  by_cases hs0 : s < 0
  · rw [if_pos (.inl hs0)] at hR
    subst hR
    refine enterW (fun _ => False) _ Try.func14 rfl (by simp only [Try.ntmps14, List.length_cons, List.length_nil, Nat.reduceAdd, Nat.reduceSub]; rfl) ?_
    refine WC.addVw u16c_len hN ?_
    repeat' (first
    | with_reducible refine WL.nil ?_
    | with_reducible refine WQ.thenN ?_
    | with_reducible refine WQ.code ?_
    | with_reducible refine WC.seq ?_
    | with_reducible refine WC.region ?_
    | ((with_reducible refine WL.isN_move ?_); first | refine WL.yld rfl (Yld.pure rfl nrmQ) ?_)
    | ((with_reducible refine WL.isN_assign ?_); first | refine WL.yld rfl (Yld.pure rfl nrmQ) ?_)
    | ((with_reducible refine WL.isN_bin ?_); first | refine WL.yld rfl (Yld.pure rfl nrmQ) ?_ | refine WL.yld rfl (Yld.rem rfl rfl rfl rfl (by omega) (by omega)) ?_ | refine WL.yld rfl (Yld.quo rfl rfl rfl rfl (by omega) (by omega) nrmQ) ?_ | refine WL.yld rfl (Yld.eqlB rfl rfl rfl rfl) ?_ | refine WL.yld rfl (Yld.neqB rfl rfl rfl rfl) ?_ | refine WL.yld rfl (Yld.eqlA 4 rfl rfl rfl (by kernel_rfl) (by kernel_rfl) rfl rfl) ?_ | refine WL.yld rfl (Yld.neqA 4 rfl rfl rfl (by kernel_rfl) (by kernel_rfl) rfl rfl) ?_ | refine WL.yld rfl (Yld.quoT rfl rfl rfl rfl (by omega) nrmQ) ?_)
    | ((with_reducible refine WL.isN_extract ?_); first | refine WL.yld rfl (Yld.pure rfl nrmQ) ?_)
    | ((with_reducible refine WL.isN_load ?_); first | refine WL.yld rfl (Yld.load rfl rfl rfl rfl cellQ) ?_ | refine WL.yld rfl (Yld.loadAgg rfl rfl rfl rfl rfl aggQ) ?_)
    | ((with_reducible refine WL.isN_faddr ?_); first | refine WL.yld rfl (Yld.fieldAddr rfl rfl rfl rfl rfl rfl rfl) ?_)
    | ((with_reducible refine WL.isN_iaddr ?_); first | refine WL.yld rfl (Yld.indexS 0 rfl rfl rfl rfl rfl rfl (by omega)) ?_ | refine WL.yld rfl (Yld.indexS 1 rfl rfl rfl rfl rfl rfl (by omega)) ?_ | refine WL.yld rfl (Yld.indexS 2 rfl rfl rfl rfl rfl rfl (by omega)) ?_ | refine WL.yld rfl (Yld.indexS _ rfl rfl rfl rfl rfl rfl (by omega)) ?_ | refine WL.yld rfl (Yld.indexA 0 rfl rfl rfl rfl rfl rfl (by omega)) ?_ | refine WL.yld rfl (Yld.indexA 1 rfl rfl rfl rfl rfl rfl (by omega)) ?_ | refine WL.yld rfl (Yld.indexA _ rfl rfl rfl rfl rfl rfl (by omega)) ?_)
    | ((with_reducible refine WL.isN_conv ?_); first | refine WL.yld rfl (Yld.convInt rfl rfl rfl rfl nrmQ) ?_)
    | ((with_reducible refine WL.isN_build ?_); first | refine WL.yld rfl (Yld.build rfl rfl rfl) ?_)
    | ((with_reducible refine WL.isN_pick ?_); first | refine WL.yld rfl (Yld.pickT rfl rfl rfl) ?_ | refine WL.yld rfl (Yld.pickF rfl rfl rfl) ?_ | refine WL.yld rfl (Yld.pickTh rfl rfl gdQ rfl) ?_ | refine WL.yld rfl (Yld.pickFh rfl rfl gdQ rfl) ?_ | refine WL.yld rfl (Yld.pickB rfl rfl rfl rfl) ?_)
    | ((with_reducible refine WL.isN_func ?_); first | refine WL.yld rfl (Yld.func rfl rfl rfl) ?_)
    | ((with_reducible refine WL.isN_call ?_); first | refine WL.yld rfl (Yld.lenSlice rfl rfl rfl) ?_ | refine WL.yld rfl (Yld.lenStr rfl rfl rfl) ?_)
    | ((with_reducible refine WL.isT ?_); first | refine WL.skipT rfl rfl rfl rfl gdQ ?_ | refine WL.skipU rfl rfl rfl rfl ?_ | refine WL.runT rfl rfl rfl gdQ ?_ | (refine WL.cases rfl rfl rfl (fun hg => ?_) (fun hg => ?_) <;> (try first | (with_reducible replace hg := of_decide_eq_true hg) | (with_reducible replace hg := of_decide_eq_false hg) | (with_reducible replace hg := eqT hg) | (with_reducible replace hg := eqF hg) | (with_reducible replace hg := neT hg) | (with_reducible replace hg := neF hg) | (with_reducible replace hg := noT hg) | (with_reducible replace hg := noF hg)) <;> (try (exfalso; omega))))
    | ((with_reducible refine WL.isF ?_); first | refine WL.skipF rfl rfl rfl rfl gdQ ?_ | refine WL.skipU rfl rfl rfl rfl ?_ | refine WL.runF rfl rfl rfl gdQ ?_ | (refine WL.cases rfl rfl rfl (fun hg => ?_) (fun hg => ?_) <;> (try first | (with_reducible replace hg := of_decide_eq_true hg) | (with_reducible replace hg := of_decide_eq_false hg) | (with_reducible replace hg := eqT hg) | (with_reducible replace hg := eqF hg) | (with_reducible replace hg := neT hg) | (with_reducible replace hg := neF hg) | (with_reducible replace hg := noT hg) | (with_reducible replace hg := noF hg)) <;> (try (exfalso; omega))))
    | ((with_reducible refine WL.isN_box ?_); first | refine WL.step rfl (StepTo.boxA rfl rfl rfl rfl (fun _ => ?_)) | refine WL.step rfl (StepTo.box1 rfl rfl rfl rfl rfl (fun _ => ?_)))
    | ((with_reducible refine WL.isN_alloc ?_); first | refine WL.step rfl (StepTo.allocA rfl rfl rfl rfl (fun _ => ?_)) | refine WL.step rfl (StepTo.alloc1 rfl rfl rfl rfl rfl (fun _ => ?_)))
    | ((with_reducible refine WL.isN_store ?_); first | refine WL.step rfl (StepTo.st1 rfl rfl rfl rfl rfl rfl ?_) | refine WL.step rfl (StepTo.stA rfl rfl rfl rfl rfl rfl rfl ?_) | refine WL.step rfl (StepTo.stR rfl rfl rfl rfl rfl rfl rfl ?_))
    | with_reducible refine WC.block ?_
    | with_reducible refine WC.scope ?_
    | with_reducible refine WC.label ?_
    | with_reducible refine WQ.ngN ?_
    | with_reducible refine WQ.ngR ?_
    | with_reducible refine WQ.ngX ?_
    | with_reducible refine WC.skip ?_
    | with_reducible refine WC.ret ?_
    | with_reducible refine WC.exit ?_
    | with_reducible refine WQ.thenR ?_
    | with_reducible refine WQ.thenX ?_
    | with_reducible refine WQ.blkN ?_
    | with_reducible refine WQ.blkR ?_
    | ((with_reducible refine WQ.blkX ?_ ?_); focus rfl)
    | ((with_reducible refine WQ.blkY ?_ ?_); focus rfl)
    | refine WC.condT rfl ?_
    | refine WC.condF rfl ?_
    | refine WC.condTh rfl gdQ ?_
    | refine WC.condFh rfl gdQ ?_
    | (refine WC.cond rfl (fun hc => ?_) (fun hc => ?_) <;> (try first | (with_reducible replace hc := of_decide_eq_true hc) | (with_reducible replace hc := of_decide_eq_false hc) | (with_reducible replace hc := eqT hc) | (with_reducible replace hc := eqF hc) | (with_reducible replace hc := neT hc) | (with_reducible replace hc := neF hc) | (with_reducible replace hc := noT hc) | (with_reducible replace hc := noF hc)) <;> (try (exfalso; omega))))
    refine WQ.body (Reads.three rfl (Res1.cellA rfl rfl rfl rfl (AggAt.box 0 rfl rfl)) (Res1.tmp rfl) (Res1.tmp rfl)) fun w' hw' => putNone (D := fun _ => False) 12 hw'
  by_cases hs : (kN : Int) ≤ s
  · rw [if_pos (.inr (by omega))] at hR
    subst hR
    refine enterW (fun _ => False) _ Try.func14 rfl (by simp only [Try.ntmps14, List.length_cons, List.length_nil, Nat.reduceAdd, Nat.reduceSub]; rfl) ?_
    refine WC.addVw u16c_len hN ?_
    repeat' (first
    | with_reducible refine WL.nil ?_
    | with_reducible refine WQ.thenN ?_
    | with_reducible refine WQ.code ?_
    | with_reducible refine WC.seq ?_
    | with_reducible refine WC.region ?_
    | ((with_reducible refine WL.isN_move ?_); first | refine WL.yld rfl (Yld.pure rfl nrmQ) ?_)
    | ((with_reducible refine WL.isN_assign ?_); first | refine WL.yld rfl (Yld.pure rfl nrmQ) ?_)
    | ((with_reducible refine WL.isN_bin ?_); first | refine WL.yld rfl (Yld.pure rfl nrmQ) ?_ | refine WL.yld rfl (Yld.rem rfl rfl rfl rfl (by omega) (by omega)) ?_ | refine WL.yld rfl (Yld.quo rfl rfl rfl rfl (by omega) (by omega) nrmQ) ?_ | refine WL.yld rfl (Yld.eqlB rfl rfl rfl rfl) ?_ | refine WL.yld rfl (Yld.neqB rfl rfl rfl rfl) ?_ | refine WL.yld rfl (Yld.eqlA 4 rfl rfl rfl (by kernel_rfl) (by kernel_rfl) rfl rfl) ?_ | refine WL.yld rfl (Yld.neqA 4 rfl rfl rfl (by kernel_rfl) (by kernel_rfl) rfl rfl) ?_ | refine WL.yld rfl (Yld.quoT rfl rfl rfl rfl (by omega) nrmQ) ?_)
    | ((with_reducible refine WL.isN_extract ?_); first | refine WL.yld rfl (Yld.pure rfl nrmQ) ?_)
    | ((with_reducible refine WL.isN_load ?_); first | refine WL.yld rfl (Yld.load rfl rfl rfl rfl cellQ) ?_ | refine WL.yld rfl (Yld.loadAgg rfl rfl rfl rfl rfl aggQ) ?_)
    | ((with_reducible refine WL.isN_faddr ?_); first | refine WL.yld rfl (Yld.fieldAddr rfl rfl rfl rfl rfl rfl rfl) ?_)
    | ((with_reducible refine WL.isN_iaddr ?_); first | refine WL.yld rfl (Yld.indexS 0 rfl rfl rfl rfl rfl rfl (by omega)) ?_ | refine WL.yld rfl (Yld.indexS 1 rfl rfl rfl rfl rfl rfl (by omega)) ?_ | refine WL.yld rfl (Yld.indexS 2 rfl rfl rfl rfl rfl rfl (by omega)) ?_ | refine WL.yld rfl (Yld.indexS _ rfl rfl rfl rfl rfl rfl (by omega)) ?_ | refine WL.yld rfl (Yld.indexA 0 rfl rfl rfl rfl rfl rfl (by omega)) ?_ | refine WL.yld rfl (Yld.indexA 1 rfl rfl rfl rfl rfl rfl (by omega)) ?_ | refine WL.yld rfl (Yld.indexA _ rfl rfl rfl rfl rfl rfl (by omega)) ?_)
    | ((with_reducible refine WL.isN_conv ?_); first | refine WL.yld rfl (Yld.convInt rfl rfl rfl rfl nrmQ) ?_)
    | ((with_reducible refine WL.isN_build ?_); first | refine WL.yld rfl (Yld.build rfl rfl rfl) ?_)
    | ((with_reducible refine WL.isN_pick ?_); first | refine WL.yld rfl (Yld.pickT rfl rfl rfl) ?_ | refine WL.yld rfl (Yld.pickF rfl rfl rfl) ?_ | refine WL.yld rfl (Yld.pickTh rfl rfl gdQ rfl) ?_ | refine WL.yld rfl (Yld.pickFh rfl rfl gdQ rfl) ?_ | refine WL.yld rfl (Yld.pickB rfl rfl rfl rfl) ?_)
    | ((with_reducible refine WL.isN_func ?_); first | refine WL.yld rfl (Yld.func rfl rfl rfl) ?_)
    | ((with_reducible refine WL.isN_call ?_); first | refine WL.yld rfl (Yld.lenSlice rfl rfl rfl) ?_ | refine WL.yld rfl (Yld.lenStr rfl rfl rfl) ?_)
    | ((with_reducible refine WL.isT ?_); first | refine WL.skipT rfl rfl rfl rfl gdQ ?_ | refine WL.skipU rfl rfl rfl rfl ?_ | refine WL.runT rfl rfl rfl gdQ ?_ | (refine WL.cases rfl rfl rfl (fun hg => ?_) (fun hg => ?_) <;> (try first | (with_reducible replace hg := of_decide_eq_true hg) | (with_reducible replace hg := of_decide_eq_false hg) | (with_reducible replace hg := eqT hg) | (with_reducible replace hg := eqF hg) | (with_reducible replace hg := neT hg) | (with_reducible replace hg := neF hg) | (with_reducible replace hg := noT hg) | (with_reducible replace hg := noF hg)) <;> (try (exfalso; omega))))
    | ((with_reducible refine WL.isF ?_); first | refine WL.skipF rfl rfl rfl rfl gdQ ?_ | refine WL.skipU rfl rfl rfl rfl ?_ | refine WL.runF rfl rfl rfl gdQ ?_ | (refine WL.cases rfl rfl rfl (fun hg => ?_) (fun hg => ?_) <;> (try first | (with_reducible replace hg := of_decide_eq_true hg) | (with_reducible replace hg := of_decide_eq_false hg) | (with_reducible replace hg := eqT hg) | (with_reducible replace hg := eqF hg) | (with_reducible replace hg := neT hg) | (with_reducible replace hg := neF hg) | (with_reducible replace hg := noT hg) | (with_reducible replace hg := noF hg)) <;> (try (exfalso; omega))))
    | ((with_reducible refine WL.isN_box ?_); first | refine WL.step rfl (StepTo.boxA rfl rfl rfl rfl (fun _ => ?_)) | refine WL.step rfl (StepTo.box1 rfl rfl rfl rfl rfl (fun _ => ?_)))
    | ((with_reducible refine WL.isN_alloc ?_); first | refine WL.step rfl (StepTo.allocA rfl rfl rfl rfl (fun _ => ?_)) | refine WL.step rfl (StepTo.alloc1 rfl rfl rfl rfl rfl (fun _ => ?_)))
    | ((with_reducible refine WL.isN_store ?_); first | refine WL.step rfl (StepTo.st1 rfl rfl rfl rfl rfl rfl ?_) | refine WL.step rfl (StepTo.stA rfl rfl rfl rfl rfl rfl rfl ?_) | refine WL.step rfl (StepTo.stR rfl rfl rfl rfl rfl rfl rfl ?_))
    | with_reducible refine WC.block ?_
    | with_reducible refine WC.scope ?_
    | with_reducible refine WC.label ?_
    | with_reducible refine WQ.ngN ?_
    | with_reducible refine WQ.ngR ?_
    | with_reducible refine WQ.ngX ?_
    | with_reducible refine WC.skip ?_
    | with_reducible refine WC.ret ?_
    | with_reducible refine WC.exit ?_
    | with_reducible refine WQ.thenR ?_
    | with_reducible refine WQ.thenX ?_
    | with_reducible refine WQ.blkN ?_
    | with_reducible refine WQ.blkR ?_
    | ((with_reducible refine WQ.blkX ?_ ?_); focus rfl)
    | ((with_reducible refine WQ.blkY ?_ ?_); focus rfl)
    | refine WC.condT rfl ?_
    | refine WC.condF rfl ?_
    | refine WC.condTh rfl gdQ ?_
    | refine WC.condFh rfl gdQ ?_
    | (refine WC.cond rfl (fun hc => ?_) (fun hc => ?_) <;> (try first | (with_reducible replace hc := of_decide_eq_true hc) | (with_reducible replace hc := of_decide_eq_false hc) | (with_reducible replace hc := eqT hc) | (with_reducible replace hc := eqF hc) | (with_reducible replace hc := neT hc) | (with_reducible replace hc := neF hc) | (with_reducible replace hc := noT hc) | (with_reducible replace hc := noF hc)) <;> (try (exfalso; omega))))
    refine WQ.body (Reads.three rfl (Res1.cellA rfl rfl rfl rfl (AggAt.box 0 rfl rfl)) (Res1.tmp rfl) (Res1.tmp rfl)) fun w' hw' => putNone (D := fun _ => False) 12 hw'
  rw [if_neg (by omega)] at hR
  obtain ⟨s, rfl⟩ := Int.eq_ofNat_of_zero_le (show 0 ≤ s by omega)
  simp only [Int.toNat_natCast] at hR
  obtain ⟨x, hx⟩ : ∃ x, next[s]? = some x := ⟨_, List.getElem?_eq_getElem (by omega)⟩
  have hxe : next.getD s 0 = x := by rw [List.getD_eq_getElem?_getD, hx]; rfl
  rw [hxe] at hR
  obtain ⟨hx0, hx1⟩ := hr _ (List.mem_of_getElem? hx)
  cases hl : lateB to x with
  | true =>
    rw [if_pos hl] at hR
    subst hR
    refine enterW (fun _ => False) _ Try.func14 rfl (by simp only [Try.ntmps14, List.length_cons, List.length_nil, Nat.reduceAdd, Nat.reduceSub]; rfl) ?_
    refine WC.addVw u16c_len hN ?_
    refine WC.vwAt 0 rfl (by omega) fun bN oN' hA => ?_
    subst hA
    have hgx : PartAt (flat u16c next) (s * 1) [.int .u16 x] := PartAt.flat u16c_len hx
    repeat' (first
    | with_reducible refine WL.nil ?_
    | with_reducible refine WQ.thenN ?_
    | with_reducible refine WQ.code ?_
    | with_reducible refine WC.seq ?_
    | with_reducible refine WC.region ?_
    | ((with_reducible refine WL.isN_move ?_); first | refine WL.yld rfl (Yld.pure rfl nrmQ) ?_)
    | ((with_reducible refine WK.isN_move ?_); first | refine WK.yld rfl (Yld.pure rfl nrmQ) ?_)
    | ((with_reducible refine WL.isN_assign ?_); first | refine WL.yld rfl (Yld.pure rfl nrmQ) ?_)
    | ((with_reducible refine WK.isN_assign ?_); first | refine WK.yld rfl (Yld.pure rfl nrmQ) ?_)
    | ((with_reducible refine WL.isN_bin ?_); first | refine WL.yld rfl (Yld.pure rfl nrmQ) ?_ | refine WL.yld rfl (Yld.rem rfl rfl rfl rfl (by omega) (by omega)) ?_ | refine WL.yld rfl (Yld.quo rfl rfl rfl rfl (by omega) (by omega) nrmQ) ?_ | refine WL.yld rfl (Yld.eqlB rfl rfl rfl rfl) ?_ | refine WL.yld rfl (Yld.neqB rfl rfl rfl rfl) ?_ | refine WL.yld rfl (Yld.eqlA 4 rfl rfl rfl (by kernel_rfl) (by kernel_rfl) rfl rfl) ?_ | refine WL.yld rfl (Yld.neqA 4 rfl rfl rfl (by kernel_rfl) (by kernel_rfl) rfl rfl) ?_ | refine WL.yld rfl (Yld.quoT rfl rfl rfl rfl (by omega) nrmQ) ?_)
    | ((with_reducible refine WK.isN_bin ?_); first | refine WK.yld rfl (Yld.pure rfl nrmQ) ?_ | refine WK.yld rfl (Yld.rem rfl rfl rfl rfl (by omega) (by omega)) ?_ | refine WK.yld rfl (Yld.quo rfl rfl rfl rfl (by omega) (by omega) nrmQ) ?_ | refine WK.yld rfl (Yld.eqlB rfl rfl rfl rfl) ?_ | refine WK.yld rfl (Yld.neqB rfl rfl rfl rfl) ?_ | refine WK.yld rfl (Yld.eqlA 4 rfl rfl rfl (by kernel_rfl) (by kernel_rfl) rfl rfl) ?_ | refine WK.yld rfl (Yld.neqA 4 rfl rfl rfl (by kernel_rfl) (by kernel_rfl) rfl rfl) ?_ | refine WK.yld rfl (Yld.quoT rfl rfl rfl rfl (by omega) nrmQ) ?_)
    | ((with_reducible refine WL.isN_extract ?_); first | refine WL.yld rfl (Yld.pure rfl nrmQ) ?_)
    | ((with_reducible refine WK.isN_extract ?_); first | refine WK.yld rfl (Yld.pure rfl nrmQ) ?_)
    | ((with_reducible refine WL.isN_load ?_); first | refine WL.yld rfl (Yld.load rfl rfl rfl rfl cellQ) ?_ | refine WL.yld rfl (Yld.loadAgg rfl rfl rfl rfl rfl aggQ) ?_)
    | ((with_reducible refine WK.isN_load ?_); first | refine WK.yld rfl (Yld.load rfl rfl rfl rfl cellQ) ?_ | refine WK.yld rfl (Yld.loadAgg rfl rfl rfl rfl rfl aggQ) ?_)
    | ((with_reducible refine WL.isN_faddr ?_); first | refine WL.yld rfl (Yld.fieldAddr rfl rfl rfl rfl rfl rfl rfl) ?_)
    | ((with_reducible refine WK.isN_faddr ?_); first | refine WK.yld rfl (Yld.fieldAddr rfl rfl rfl rfl rfl rfl rfl) ?_)
    | ((with_reducible refine WL.isN_iaddr ?_); first | refine WL.yld rfl (Yld.indexS 0 rfl rfl rfl rfl rfl rfl (by omega)) ?_ | refine WL.yld rfl (Yld.indexS 1 rfl rfl rfl rfl rfl rfl (by omega)) ?_ | refine WL.yld rfl (Yld.indexS 2 rfl rfl rfl rfl rfl rfl (by omega)) ?_ | refine WL.yld rfl (Yld.indexS _ rfl rfl rfl rfl rfl rfl (by omega)) ?_ | refine WL.yld rfl (Yld.indexA 0 rfl rfl rfl rfl rfl rfl (by omega)) ?_ | refine WL.yld rfl (Yld.indexA 1 rfl rfl rfl rfl rfl rfl (by omega)) ?_ | refine WL.yld rfl (Yld.indexA _ rfl rfl rfl rfl rfl rfl (by omega)) ?_)
    | ((with_reducible refine WK.isN_iaddr ?_); first | refine WK.yld rfl (Yld.indexS 0 rfl rfl rfl rfl rfl rfl (by omega)) ?_ | refine WK.yld rfl (Yld.indexS 1 rfl rfl rfl rfl rfl rfl (by omega)) ?_ | refine WK.yld rfl (Yld.indexS 2 rfl rfl rfl rfl rfl rfl (by omega)) ?_ | refine WK.yld rfl (Yld.indexS _ rfl rfl rfl rfl rfl rfl (by omega)) ?_ | refine WK.yld rfl (Yld.indexA 0 rfl rfl rfl rfl rfl rfl (by omega)) ?_ | refine WK.yld rfl (Yld.indexA 1 rfl rfl rfl rfl rfl rfl (by omega)) ?_ | refine WK.yld rfl (Yld.indexA _ rfl rfl rfl rfl rfl rfl (by omega)) ?_)
    | ((with_reducible refine WL.isN_conv ?_); first | refine WL.yld rfl (Yld.convInt rfl rfl rfl rfl nrmQ) ?_)
    | ((with_reducible refine WK.isN_conv ?_); first | refine WK.yld rfl (Yld.convInt rfl rfl rfl rfl nrmQ) ?_)
    | ((with_reducible refine WL.isN_build ?_); first | refine WL.yld rfl (Yld.build rfl rfl rfl) ?_)
    | ((with_reducible refine WK.isN_build ?_); first | refine WK.yld rfl (Yld.build rfl rfl rfl) ?_)
    | ((with_reducible refine WL.isN_pick ?_); first | refine WL.yld rfl (Yld.pickT rfl rfl rfl) ?_ | refine WL.yld rfl (Yld.pickF rfl rfl rfl) ?_ | refine WL.yld rfl (Yld.pickTh rfl rfl gdQ rfl) ?_ | refine WL.yld rfl (Yld.pickFh rfl rfl gdQ rfl) ?_ | refine WL.yld rfl (Yld.pickB rfl rfl rfl rfl) ?_)
    | ((with_reducible refine WK.isN_pick ?_); first | refine WK.yld rfl (Yld.pickT rfl rfl rfl) ?_ | refine WK.yld rfl (Yld.pickF rfl rfl rfl) ?_ | refine WK.yld rfl (Yld.pickTh rfl rfl gdQ rfl) ?_ | refine WK.yld rfl (Yld.pickFh rfl rfl gdQ rfl) ?_ | refine WK.yld rfl (Yld.pickB rfl rfl rfl rfl) ?_)
    | ((with_reducible refine WL.isN_func ?_); first | refine WL.yld rfl (Yld.func rfl rfl rfl) ?_)
    | ((with_reducible refine WK.isN_func ?_); first | refine WK.yld rfl (Yld.func rfl rfl rfl) ?_)
    | ((with_reducible refine WL.isN_call ?_); first | refine WK.step rfl (Qui.call (v := .bool true) (us := [.int .u16 to, .int .u16 x]) rfl rfl rfl (by kernel_rfl) (fun w _ => hl ▸ late_c to x w)) ?_ | refine WL.yld rfl (Yld.lenSlice rfl rfl rfl) ?_ | refine WL.yld rfl (Yld.lenStr rfl rfl rfl) ?_)
    | ((with_reducible refine WK.isN_call ?_); first | refine WK.step rfl (Qui.call (v := .bool true) (us := [.int .u16 to, .int .u16 x]) rfl rfl rfl (by kernel_rfl) (fun w _ => hl ▸ late_c to x w)) ?_ | refine WK.yld rfl (Yld.lenSlice rfl rfl rfl) ?_ | refine WK.yld rfl (Yld.lenStr rfl rfl rfl) ?_)
    | ((with_reducible refine WL.isT ?_); first | refine WL.skipT rfl rfl rfl rfl gdQ ?_ | refine WL.skipU rfl rfl rfl rfl ?_ | refine WL.runT rfl rfl rfl gdQ ?_ | (refine WL.cases rfl rfl rfl (fun hg => ?_) (fun hg => ?_) <;> (try first | (with_reducible replace hg := of_decide_eq_true hg) | (with_reducible replace hg := of_decide_eq_false hg) | (with_reducible replace hg := eqT hg) | (with_reducible replace hg := eqF hg) | (with_reducible replace hg := neT hg) | (with_reducible replace hg := neF hg) | (with_reducible replace hg := noT hg) | (with_reducible replace hg := noF hg)) <;> (try (exfalso; omega))))
    | ((with_reducible refine WK.isT ?_); first | refine WK.skipT rfl rfl rfl rfl gdQ ?_ | refine WK.skipU rfl rfl rfl rfl ?_ | refine WK.runT rfl rfl rfl gdQ ?_ | (refine WK.cases rfl rfl rfl (fun hg => ?_) (fun hg => ?_) <;> (try first | (with_reducible replace hg := of_decide_eq_true hg) | (with_reducible replace hg := of_decide_eq_false hg) | (with_reducible replace hg := eqT hg) | (with_reducible replace hg := eqF hg) | (with_reducible replace hg := neT hg) | (with_reducible replace hg := neF hg) | (with_reducible replace hg := noT hg) | (with_reducible replace hg := noF hg)) <;> (try (exfalso; omega))))
    | ((with_reducible refine WL.isF ?_); first | refine WL.skipF rfl rfl rfl rfl gdQ ?_ | refine WL.skipU rfl rfl rfl rfl ?_ | refine WL.runF rfl rfl rfl gdQ ?_ | (refine WL.cases rfl rfl rfl (fun hg => ?_) (fun hg => ?_) <;> (try first | (with_reducible replace hg := of_decide_eq_true hg) | (with_reducible replace hg := of_decide_eq_false hg) | (with_reducible replace hg := eqT hg) | (with_reducible replace hg := eqF hg) | (with_reducible replace hg := neT hg) | (with_reducible replace hg := neF hg) | (with_reducible replace hg := noT hg) | (with_reducible replace hg := noF hg)) <;> (try (exfalso; omega))))
    | ((with_reducible refine WK.isF ?_); first | refine WK.skipF rfl rfl rfl rfl gdQ ?_ | refine WK.skipU rfl rfl rfl rfl ?_ | refine WK.runF rfl rfl rfl gdQ ?_ | (refine WK.cases rfl rfl rfl (fun hg => ?_) (fun hg => ?_) <;> (try first | (with_reducible replace hg := of_decide_eq_true hg) | (with_reducible replace hg := of_decide_eq_false hg) | (with_reducible replace hg := eqT hg) | (with_reducible replace hg := eqF hg) | (with_reducible replace hg := neT hg) | (with_reducible replace hg := neF hg) | (with_reducible replace hg := noT hg) | (with_reducible replace hg := noF hg)) <;> (try (exfalso; omega))))
    | ((with_reducible refine WL.isN_box ?_); first | refine WL.step rfl (StepTo.boxA rfl rfl rfl rfl (fun _ => ?_)) | refine WL.step rfl (StepTo.box1 rfl rfl rfl rfl rfl (fun _ => ?_)))
    | ((with_reducible refine WL.isN_alloc ?_); first | refine WL.step rfl (StepTo.allocA rfl rfl rfl rfl (fun _ => ?_)) | refine WL.step rfl (StepTo.alloc1 rfl rfl rfl rfl rfl (fun _ => ?_)))
    | ((with_reducible refine WL.isN_store ?_); first | refine WL.step rfl (StepTo.st1 rfl rfl rfl rfl rfl rfl ?_) | refine WL.step rfl (StepTo.stA rfl rfl rfl rfl rfl rfl rfl ?_) | refine WL.step rfl (StepTo.stR rfl rfl rfl rfl rfl rfl rfl ?_))
    | with_reducible refine WC.block ?_
    | with_reducible refine WC.scope ?_
    | with_reducible refine WC.label ?_
    | with_reducible refine WQ.ngN ?_
    | with_reducible refine WQ.ngR ?_
    | with_reducible refine WQ.ngX ?_
    | with_reducible refine WC.skip ?_
    | with_reducible refine WC.ret ?_
    | with_reducible refine WC.exit ?_
    | with_reducible refine WQ.thenR ?_
    | with_reducible refine WQ.thenX ?_
    | with_reducible refine WQ.blkN ?_
    | with_reducible refine WQ.blkR ?_
    | ((with_reducible refine WQ.blkX ?_ ?_); focus rfl)
    | ((with_reducible refine WQ.blkY ?_ ?_); focus rfl)
    | (refine WC.quiet (i := 3) (by kernel_rfl) (by kernel_rfl) ?_)
    | with_reducible refine WK.nil ?_
    | refine WC.condT rfl ?_
    | refine WC.condF rfl ?_
    | refine WC.condTh rfl gdQ ?_
    | refine WC.condFh rfl gdQ ?_
    | (refine WC.cond rfl (fun hc => ?_) (fun hc => ?_) <;> (try first | (with_reducible replace hc := of_decide_eq_true hc) | (with_reducible replace hc := of_decide_eq_false hc) | (with_reducible replace hc := eqT hc) | (with_reducible replace hc := eqF hc) | (with_reducible replace hc := neT hc) | (with_reducible replace hc := neF hc) | (with_reducible replace hc := noT hc) | (with_reducible replace hc := noF hc)) <;> (try (exfalso; omega))))
    refine WQ.body (Reads.three rfl (Res1.cellA rfl rfl rfl rfl (AggAt.box 0 rfl rfl)) (Res1.tmp rfl) (Res1.tmp rfl)) fun w' hw' => putNone (D := fun _ => False) 1 hw'
  | false =>
    rw [hl, if_neg (by simp)] at hR
    subst hR
    exact skip_yes AN kN cN next AW nW cW wait s to x w hN hW oN oW hk (by omega) (by omega) hx hl q0 q1 hu
theorem skipF_ok {k n : Nat} {P : Msg → Prop} {next : List Int} {wait : List Msg} {s to : Int} (h : QOk k n P next wait) (q0 : 0 ≤ to) (q1 : to ≤ 65535) (h0 : (skipF next wait s to).1 = 0) :
    QOk k (n + 1) P (skipF next wait s to).2.1 (skipF next wait s to).2.2.1 ∧ (∀ x ∈ (skipF next wait s to).2.2.2, P x) ∧ (skipF next wait s to).2.2.2.length ≤ n + 1 := by
  have hl := h.most
  unfold skipF at h0 ⊢
  split at h0
  · simp at h0
  · rename_i h1
    rw [if_neg h1]
    split at h0
    · simp at h0
    · rename_i h2
      rw [if_neg h2]
      have hall : ∀ x ∈ keepF s to wait, P x := fun x hx => h.all x (keep_mem hx)
      have hlen := toldF_len s (keepF s to wait).length to (keepF s to wait)
      have hx := toldF_range s (keepF s to wait).length to (keepF s to wait) q0 q1
      have hle := keep_le s to wait
      refine ⟨⟨by simp [h.len], by simp only at hlen ⊢; omega, fun x hx' => ?_, fun x hx' => hall x (toldF_wait hx')⟩, fun x hx' => hall x (toldF_told hx'), by simp only at hlen ⊢; omega⟩
      rcases List.mem_or_eq_of_mem_set hx' with h' | h'
      · exact h.nums x h'
      · subst h'; simpa using hx
theorem skipF_not {next : List Int} {wait : List Msg} {s to : Int} (h : (skipF next wait s to).1 ≠ 0) : (skipF next wait s to).2 = ([], [], []) := by
  unfold skipF at h ⊢
  split
  · rfl
  · rename_i h1
    rw [if_neg h1] at h
    split
    · rfl
    · rename_i h2
      rw [if_neg h2] at h
      exact absurd rfl h
theorem putF_not {next : List Int} {wait : List Msg} {m : Msg} (h : (putF next wait m).1 ≠ 0) : (putF next wait m).2 = ([], [], []) := by
  unfold putF at h ⊢
  split
  · rfl
  · rename_i h1
    rw [if_neg h1] at h
    split
    · rename_i h2
      rw [if_pos h2] at h
      exact absurd rfl h
    · rename_i h2
      rw [if_neg h2] at h
      split
      · rfl
      · rename_i h3
        rw [if_neg h3] at h
        exact absurd rfl h
/-- An act that came in. -/
structure OAct where
  op : Int
  to_ : Int
  m : Msg
def OAct.cs (a : OAct) : List Value := [.int .i64 a.op, .int .i64 a.to_, .int .u32 a.m.first, .bool a.m.free, .int .u16 a.m.stream, .int .u16 a.m.ssn, .int .u32 a.m.ppid, .string a.m.text]
theorem OAct.cs_len (a : OAct) : a.cs.length = 8 := rfl
/-- What is so of every message that waits. -/
def PM (m : Msg) : Prop := U16M m ∧ N16 m ∧ m.text.size ≤ 300
/-- What an act makes of a queue. -/
def actF (next : List Int) (wait : List Msg) (a : OAct) (sk : Bool) : Int × List Int × List Msg × List Msg := if sk then skipF next wait a.to_ a.m.ssn else putF next wait a.m
theorem actF_ok {k n : Nat} {next : List Int} {wait : List Msg} {a : OAct} {sk : Bool} (h : QOk k n PM next wait) (ha : PM a.m) (h0 : (actF next wait a sk).1 = 0) :
    QOk k (n + 1) PM (actF next wait a sk).2.1 (actF next wait a sk).2.2.1 ∧ (∀ x ∈ (actF next wait a sk).2.2.2, PM x) ∧ (actF next wait a sk).2.2.2.length ≤ n + 1 := by
  unfold actF at h0 ⊢
  cases sk with
  | true => simp only [if_true] at h0 ⊢; exact skipF_ok h ha.2.1.1 ha.2.1.2 h0
  | false => simp only [Bool.false_eq_true, if_false] at h0 ⊢; exact putF_ok h ha h0
theorem actF_not {next : List Int} {wait : List Msg} {a : OAct} {sk : Bool} (h : (actF next wait a sk).1 ≠ 0) : (actF next wait a sk).2 = ([], [], []) := by
  unfold actF at h ⊢
  cases sk with
  | true => simp only [if_true] at h ⊢; exact skipF_not h
  | false => simp only [Bool.false_eq_true, if_false] at h ⊢; exact putF_not h
theorem actF_len {k n : Nat} {next : List Int} {wait : List Msg} {a : OAct} {sk : Bool} (h : QOk k n PM next wait) (ha : PM a.m) : (actF next wait a sk).2.1.length ≤ k ∧ (actF next wait a sk).2.2.1.length ≤ n + 1 ∧ (actF next wait a sk).2.2.2.length ≤ n + 1 := by
  by_cases h0 : (actF next wait a sk).1 = 0
  · obtain ⟨h1, _, h3⟩ := actF_ok h ha h0
    exact ⟨by rw [h1.len]; exact Nat.le_refl _, h1.most, h3⟩
  · rw [actF_not h0]; simp
end Go.Proofs.Ytegefnidhdicdaa
