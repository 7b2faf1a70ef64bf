/- Numbers that go round: the document's rows, and the law SerialRows. -/
import Derived.Test.YtgamndfgcbapgaaSerE
import Derived.Test.YtgamndfgcbapgaaSerG
import Derived.Test.YtgamndfgcbapgaaSerA
namespace Go.Proofs.Ytgamndfgcbapgaa
open Go.RowKit
open Go.Proofs.Ytgamndfgcbapgaa.Ser
set_option linter.unusedVariables false
set_option maxRecDepth 100000

set_option maxHeartbeats 4000000 in
theorem rruns_w (A : Option Addr) (n c : Nat) (fr : Int) (xs : List Int) (w : World) (hL : Lst (ic .i64) 1 w w.heap.size A n xs) (hn : n ≤ 100000) (hx : ∀ y ∈ xs, RU y) (hfr : RU fr) {V : Nat → Prop} :
    Calls Try.prog 14 #[.slice A n c, .int .i64 fr] w
      fun e w' => ∃ v N, e = .returned v ∧ (∃ A' m c', m = (runs (srt fr xs)).length ∧ v = .slice A' m c' ∧ N = [.row A' m c' 34 2 (flat (pc .i64) (runs (srt fr xs)))]) ∧ New V N w w' := by
  have hl := hL.len
  have hsn := srt_len' fr xs
  have hsr : ∀ y ∈ srt fr xs, RU y := fun y hy => hx y ((mem_srt hx).1 hy)
  have hup : Up fr (srt fr xs) := up_srt hx
  refine enterW (fun _ => False) _ Try.func14 rfl (by simp only [Try.ntmps14, List.length_cons, List.length_nil, Nat.reduceAdd, Nat.reduceSub]; rfl) ?_
  refine WC.addVw (ic_len .i64) hL ?_
  repeat' (first
    | with_reducible refine WL.nil ?_
    | with_reducible refine WQ.thenN ?_
    | with_reducible refine WQ.code ?_
    | with_reducible refine WC.seq ?_
    | with_reducible refine WC.region ?_
    | ((with_reducible refine WL.isN_move ?_); first | refine WL.yld rfl (Yld.pure rfl nrmQ) ?_)
    | ((with_reducible refine WL.isN_assign ?_); first | refine WL.yld rfl (Yld.pure rfl nrmQ) ?_)
    | ((with_reducible refine WL.isN_bin ?_); first | refine WL.yld rfl (Yld.pure rfl nrmQ) ?_ | refine WL.yld rfl (Yld.rem rfl rfl rfl rfl (by omega) (by omega)) ?_ | refine WL.yld rfl (Yld.quo rfl rfl rfl rfl (by omega) (by omega) nrmQ) ?_ | refine WL.yld rfl (Yld.eqlB rfl rfl rfl rfl) ?_ | refine WL.yld rfl (Yld.neqB rfl rfl rfl rfl) ?_ | refine WL.yld rfl (Yld.eqlA 4 rfl rfl rfl (by kernel_rfl) (by kernel_rfl) rfl rfl) ?_ | refine WL.yld rfl (Yld.neqA 4 rfl rfl rfl (by kernel_rfl) (by kernel_rfl) rfl rfl) ?_ | refine WL.yld rfl (Yld.quoT rfl rfl rfl rfl (by omega) nrmQ) ?_)
    | ((with_reducible refine WL.isN_load ?_); first | refine WL.yld rfl (Yld.load rfl rfl rfl rfl cellQ) ?_ | refine WL.yld rfl (Yld.loadAgg rfl rfl rfl rfl rfl aggQ) ?_)
    | ((with_reducible refine WL.isN_iaddr ?_); first | refine WL.yld rfl (Yld.indexS 0 rfl rfl rfl rfl rfl rfl (by omega)) ?_ | refine WL.yld rfl (Yld.indexS 1 rfl rfl rfl rfl rfl rfl (by omega)) ?_ | refine WL.yld rfl (Yld.indexS 2 rfl rfl rfl rfl rfl rfl (by omega)) ?_ | refine WL.yld rfl (Yld.indexS _ rfl rfl rfl rfl rfl rfl (by omega)) ?_ | refine WL.yld rfl (Yld.indexA 0 rfl rfl rfl rfl rfl rfl (by omega)) ?_ | refine WL.yld rfl (Yld.indexA 1 rfl rfl rfl rfl rfl rfl (by omega)) ?_ | refine WL.yld rfl (Yld.indexA _ rfl rfl rfl rfl rfl rfl (by omega)) ?_)
    | ((with_reducible refine WL.isN_build ?_); first | refine WL.yld rfl (Yld.build rfl rfl rfl) ?_)
    | ((with_reducible refine WL.isN_pick ?_); first | refine WL.yld rfl (Yld.pickT rfl rfl rfl) ?_ | refine WL.yld rfl (Yld.pickF rfl rfl rfl) ?_ | refine WL.yld rfl (Yld.pickTh rfl rfl gdQ rfl) ?_ | refine WL.yld rfl (Yld.pickFh rfl rfl gdQ rfl) ?_ | refine WL.yld rfl (Yld.pickB rfl rfl rfl rfl) ?_)
    | ((with_reducible refine WL.isN_call ?_); first | refine WL.step rfl (StepTo.callN [] (us := [.slice A n c, .int .i64 fr]) rfl rfl rfl rfl rfl (by kernel_rfl) (fun w hw => rsorted_w A n c fr xs w (hw.lst 0 (ic_len .i64) (by omega) rfl) hn hx hfr) ?_) | refine WL.yld rfl (Yld.lenSlice rfl rfl rfl) ?_ | refine WL.yld rfl (Yld.lenStr rfl rfl rfl) ?_ | refine WL.step rfl (StepTo.append 0 rfl rfl rfl rfl rfl rfl rfl rfl rfl rfl rfl rfl (by first | exact CellsAt.boxAll 0 rfl | exact CellsAt.boxAll 1 rfl | exact CellsAt.boxAll 2 rfl | exact CellsAt.boxAll 3 rfl | exact CellsAt.boxAll 4 rfl) rfl rfl (by omega) (fun _ _ => ⟨_, setQ, ?_⟩)) | refine WL.step rfl (StepTo.append 1 rfl rfl rfl rfl rfl rfl rfl rfl rfl rfl rfl rfl (by first | exact CellsAt.boxAll 0 rfl | exact CellsAt.boxAll 1 rfl | exact CellsAt.boxAll 2 rfl | exact CellsAt.boxAll 3 rfl | exact CellsAt.boxAll 4 rfl) rfl rfl (by omega) (fun _ _ => ⟨_, setQ, ?_⟩)) | refine WL.step rfl (StepTo.append 2 rfl rfl rfl rfl rfl rfl rfl rfl rfl rfl rfl rfl (by first | exact CellsAt.boxAll 0 rfl | exact CellsAt.boxAll 1 rfl | exact CellsAt.boxAll 2 rfl | exact CellsAt.boxAll 3 rfl | exact CellsAt.boxAll 4 rfl) rfl rfl (by omega) (fun _ _ => ⟨_, setQ, ?_⟩)) | refine WL.step rfl (StepTo.append 3 rfl rfl rfl rfl rfl rfl rfl rfl rfl rfl rfl rfl (by first | exact CellsAt.boxAll 0 rfl | exact CellsAt.boxAll 1 rfl | exact CellsAt.boxAll 2 rfl | exact CellsAt.boxAll 3 rfl | exact CellsAt.boxAll 4 rfl) rfl rfl (by omega) (fun _ _ => ⟨_, setQ, ?_⟩)) | refine WL.step rfl (StepTo.append 4 rfl rfl rfl rfl rfl rfl rfl rfl rfl rfl rfl rfl (by first | exact CellsAt.boxAll 0 rfl | exact CellsAt.boxAll 1 rfl | exact CellsAt.boxAll 2 rfl | exact CellsAt.boxAll 3 rfl | exact CellsAt.boxAll 4 rfl) rfl rfl (by omega) (fun _ _ => ⟨_, setQ, ?_⟩)) | refine WL.step rfl (StepTo.append 5 rfl rfl rfl rfl rfl rfl rfl rfl rfl rfl rfl rfl (by first | exact CellsAt.boxAll 0 rfl | exact CellsAt.boxAll 1 rfl | exact CellsAt.boxAll 2 rfl | exact CellsAt.boxAll 3 rfl | exact CellsAt.boxAll 4 rfl) rfl rfl (by omega) (fun _ _ => ⟨_, setQ, ?_⟩)) | refine WL.step rfl (StepTo.append 6 rfl rfl rfl rfl rfl rfl rfl rfl rfl rfl rfl rfl (by first | exact CellsAt.boxAll 0 rfl | exact CellsAt.boxAll 1 rfl | exact CellsAt.boxAll 2 rfl | exact CellsAt.boxAll 3 rfl | exact CellsAt.boxAll 4 rfl) rfl rfl (by omega) (fun _ _ => ⟨_, setQ, ?_⟩)))
    | ((with_reducible refine WL.isT ?_); first | refine WL.skipT rfl rfl rfl rfl gdQ ?_ | refine WL.skipU rfl rfl rfl rfl ?_ | refine WL.runT rfl rfl rfl gdQ ?_)
    | ((with_reducible refine WL.isF ?_); first | refine WL.skipF rfl rfl rfl rfl gdQ ?_ | refine WL.skipU rfl rfl rfl rfl ?_ | refine WL.runF rfl rfl rfl gdQ ?_)
    | ((with_reducible refine WL.isN_bslice ?_); first | refine WL.step rfl (StepTo.buildSlice rfl rfl rfl rfl rfl rfl rfl rfl rfl rfl cellsOfQ (fun _ => ?_)))
    | with_reducible refine WC.block ?_
    | with_reducible refine WC.scope ?_
    | with_reducible refine WC.label ?_
    | with_reducible refine WQ.ngN ?_
    | with_reducible refine WQ.ngR ?_
    | with_reducible refine WQ.ngX ?_
    | with_reducible refine WC.skip ?_
    | with_reducible refine WC.ret ?_
    | with_reducible refine WC.exit ?_
    | with_reducible refine WQ.thenR ?_
    | with_reducible refine WQ.thenX ?_
    | with_reducible refine WQ.blkN ?_
    | with_reducible refine WQ.blkR ?_
    | ((with_reducible refine WQ.blkX ?_ ?_); focus rfl)
    | ((with_reducible refine WQ.blkY ?_ ?_); focus rfl)
    | refine WC.condT rfl ?_
    | refine WC.condF rfl ?_
    | refine WC.condTh rfl gdQ ?_
    | refine WC.condFh rfl gdQ ?_
    | (refine WC.cond rfl (fun hc => ?_) (fun hc => ?_) <;> (try first | (with_reducible replace hc := of_decide_eq_true hc) | (with_reducible replace hc := of_decide_eq_false hc) | (with_reducible replace hc := eqT hc) | (with_reducible replace hc := eqF hc) | (with_reducible replace hc := neT hc) | (with_reducible replace hc := neF hc) | (with_reducible replace hc := noT hc) | (with_reducible replace hc := noF hc)) <;> (try (exfalso; omega))))
  rintro v N ⟨A7, k7, c7, hk7, rfl, rfl⟩
  generalize srt fr xs = s at *
  repeat' (first
    | with_reducible refine WL.nil ?_
    | with_reducible refine WQ.thenN ?_
    | with_reducible refine WQ.code ?_
    | with_reducible refine WC.seq ?_
    | with_reducible refine WC.region ?_
    | ((with_reducible refine WL.isN_move ?_); first | refine WL.yld rfl (Yld.pure rfl nrmQ) ?_)
    | ((with_reducible refine WL.isN_assign ?_); first | refine WL.yld rfl (Yld.pure rfl nrmQ) ?_)
    | ((with_reducible refine WL.isN_bin ?_); first | refine WL.yld rfl (Yld.pure rfl nrmQ) ?_ | refine WL.yld rfl (Yld.rem rfl rfl rfl rfl (by omega) (by omega)) ?_ | refine WL.yld rfl (Yld.quo rfl rfl rfl rfl (by omega) (by omega) nrmQ) ?_ | refine WL.yld rfl (Yld.eqlB rfl rfl rfl rfl) ?_ | refine WL.yld rfl (Yld.neqB rfl rfl rfl rfl) ?_ | refine WL.yld rfl (Yld.eqlA 4 rfl rfl rfl (by kernel_rfl) (by kernel_rfl) rfl rfl) ?_ | refine WL.yld rfl (Yld.neqA 4 rfl rfl rfl (by kernel_rfl) (by kernel_rfl) rfl rfl) ?_ | refine WL.yld rfl (Yld.quoT rfl rfl rfl rfl (by omega) nrmQ) ?_)
    | ((with_reducible refine WL.isN_load ?_); first | refine WL.yld rfl (Yld.load rfl rfl rfl rfl cellQ) ?_ | refine WL.yld rfl (Yld.loadAgg rfl rfl rfl rfl rfl aggQ) ?_)
    | ((with_reducible refine WL.isN_iaddr ?_); first | refine WL.yld rfl (Yld.indexS 0 rfl rfl rfl rfl rfl rfl (by omega)) ?_ | refine WL.yld rfl (Yld.indexS 1 rfl rfl rfl rfl rfl rfl (by omega)) ?_ | refine WL.yld rfl (Yld.indexS 2 rfl rfl rfl rfl rfl rfl (by omega)) ?_ | refine WL.yld rfl (Yld.indexS _ rfl rfl rfl rfl rfl rfl (by omega)) ?_ | refine WL.yld rfl (Yld.indexA 0 rfl rfl rfl rfl rfl rfl (by omega)) ?_ | refine WL.yld rfl (Yld.indexA 1 rfl rfl rfl rfl rfl rfl (by omega)) ?_ | refine WL.yld rfl (Yld.indexA _ rfl rfl rfl rfl rfl rfl (by omega)) ?_)
    | ((with_reducible refine WL.isN_build ?_); first | refine WL.yld rfl (Yld.build rfl rfl rfl) ?_)
    | ((with_reducible refine WL.isN_pick ?_); first | refine WL.yld rfl (Yld.pickT rfl rfl rfl) ?_ | refine WL.yld rfl (Yld.pickF rfl rfl rfl) ?_ | refine WL.yld rfl (Yld.pickTh rfl rfl gdQ rfl) ?_ | refine WL.yld rfl (Yld.pickFh rfl rfl gdQ rfl) ?_ | refine WL.yld rfl (Yld.pickB rfl rfl rfl rfl) ?_)
    | ((with_reducible refine WL.isN_call ?_); first | refine WL.yld rfl (Yld.lenSlice rfl rfl rfl) ?_ | refine WL.yld rfl (Yld.lenStr rfl rfl rfl) ?_ | refine WL.step rfl (StepTo.append 0 rfl rfl rfl rfl rfl rfl rfl rfl rfl rfl rfl rfl (by first | exact CellsAt.boxAll 0 rfl | exact CellsAt.boxAll 1 rfl | exact CellsAt.boxAll 2 rfl | exact CellsAt.boxAll 3 rfl | exact CellsAt.boxAll 4 rfl) rfl rfl (by omega) (fun _ _ => ⟨_, setQ, ?_⟩)) | refine WL.step rfl (StepTo.append 1 rfl rfl rfl rfl rfl rfl rfl rfl rfl rfl rfl rfl (by first | exact CellsAt.boxAll 0 rfl | exact CellsAt.boxAll 1 rfl | exact CellsAt.boxAll 2 rfl | exact CellsAt.boxAll 3 rfl | exact CellsAt.boxAll 4 rfl) rfl rfl (by omega) (fun _ _ => ⟨_, setQ, ?_⟩)) | refine WL.step rfl (StepTo.append 2 rfl rfl rfl rfl rfl rfl rfl rfl rfl rfl rfl rfl (by first | exact CellsAt.boxAll 0 rfl | exact CellsAt.boxAll 1 rfl | exact CellsAt.boxAll 2 rfl | exact CellsAt.boxAll 3 rfl | exact CellsAt.boxAll 4 rfl) rfl rfl (by omega) (fun _ _ => ⟨_, setQ, ?_⟩)) | refine WL.step rfl (StepTo.append 3 rfl rfl rfl rfl rfl rfl rfl rfl rfl rfl rfl rfl (by first | exact CellsAt.boxAll 0 rfl | exact CellsAt.boxAll 1 rfl | exact CellsAt.boxAll 2 rfl | exact CellsAt.boxAll 3 rfl | exact CellsAt.boxAll 4 rfl) rfl rfl (by omega) (fun _ _ => ⟨_, setQ, ?_⟩)) | refine WL.step rfl (StepTo.append 4 rfl rfl rfl rfl rfl rfl rfl rfl rfl rfl rfl rfl (by first | exact CellsAt.boxAll 0 rfl | exact CellsAt.boxAll 1 rfl | exact CellsAt.boxAll 2 rfl | exact CellsAt.boxAll 3 rfl | exact CellsAt.boxAll 4 rfl) rfl rfl (by omega) (fun _ _ => ⟨_, setQ, ?_⟩)) | refine WL.step rfl (StepTo.append 5 rfl rfl rfl rfl rfl rfl rfl rfl rfl rfl rfl rfl (by first | exact CellsAt.boxAll 0 rfl | exact CellsAt.boxAll 1 rfl | exact CellsAt.boxAll 2 rfl | exact CellsAt.boxAll 3 rfl | exact CellsAt.boxAll 4 rfl) rfl rfl (by omega) (fun _ _ => ⟨_, setQ, ?_⟩)) | refine WL.step rfl (StepTo.append 6 rfl rfl rfl rfl rfl rfl rfl rfl rfl rfl rfl rfl (by first | exact CellsAt.boxAll 0 rfl | exact CellsAt.boxAll 1 rfl | exact CellsAt.boxAll 2 rfl | exact CellsAt.boxAll 3 rfl | exact CellsAt.boxAll 4 rfl) rfl rfl (by omega) (fun _ _ => ⟨_, setQ, ?_⟩)))
    | ((with_reducible refine WL.isT ?_); first | refine WL.skipT rfl rfl rfl rfl gdQ ?_ | refine WL.skipU rfl rfl rfl rfl ?_ | refine WL.runT rfl rfl rfl gdQ ?_)
    | ((with_reducible refine WL.isF ?_); first | refine WL.skipF rfl rfl rfl rfl gdQ ?_ | refine WL.skipU rfl rfl rfl rfl ?_ | refine WL.runF rfl rfl rfl gdQ ?_)
    | ((with_reducible refine WL.isN_bslice ?_); first | refine WL.step rfl (StepTo.buildSlice rfl rfl rfl rfl rfl rfl rfl rfl rfl rfl cellsOfQ (fun _ => ?_)))
    | with_reducible refine WC.block ?_
    | with_reducible refine WC.scope ?_
    | with_reducible refine WC.label ?_
    | with_reducible refine WQ.ngN ?_
    | with_reducible refine WQ.ngR ?_
    | with_reducible refine WQ.ngX ?_
    | with_reducible refine WC.skip ?_
    | with_reducible refine WC.ret ?_
    | with_reducible refine WC.exit ?_
    | with_reducible refine WQ.thenR ?_
    | with_reducible refine WQ.thenX ?_
    | with_reducible refine WQ.blkN ?_
    | with_reducible refine WQ.blkR ?_
    | ((with_reducible refine WQ.blkX ?_ ?_); focus rfl)
    | ((with_reducible refine WQ.blkY ?_ ?_); focus rfl)
    | refine WC.condT rfl ?_
    | refine WC.condF rfl ?_
    | refine WC.condTh rfl gdQ ?_
    | refine WC.condFh rfl gdQ ?_
    | (refine WC.cond rfl (fun hc => ?_) (fun hc => ?_) <;> (try first | (with_reducible replace hc := of_decide_eq_true hc) | (with_reducible replace hc := of_decide_eq_false hc) | (with_reducible replace hc := eqT hc) | (with_reducible replace hc := eqF hc) | (with_reducible replace hc := neT hc) | (with_reducible replace hc := neF hc) | (with_reducible replace hc := noT hc) | (with_reducible replace hc := noF hc)) <;> (try (exfalso; omega))))
  refine WC.nilRow 34 2 ?_
  refine WC.loop (fun mm τ H => ∃ (i m : Nat) (A' : Option Addr) (c' : Nat), i ≤ k7 ∧ mm = k7 - i ∧ m = (runs (s.take i)).length ∧
      τ = [(1, .int .i64 fr), (5, .slice A7 k7 c7), (6, .slice A' m c'), (7, .int .i64 i)] ∧ H = [.row A' m c' 34 2 (flat (pc .i64) (runs (s.take i))), .row A7 k7 c7 3 1 (flat (ic .i64) s)])
    k7 _ _ [0, 1] ?_ ?_ ⟨0, 0, none, 0, by omega, rfl, rfl, rfl, rfl⟩ ?_
  · exact (by repeat (first | exact Sub.nil | refine Sub.cons rfl ?_ | refine Sub.consE rfl (int_eq (by omega)) ?_))
  · exact ⟨by decide, rfl⟩
  rintro mm τ H ⟨i, m, A', c', hi, rfl, hm, rfl, rfl⟩
  by_cases hlt : i < k7
  case neg =>
    obtain rfl : k7 = i := by omega
    rw [List.take_of_length_le (by omega)] at hm ⊢
    repeat' (first
    | with_reducible refine WL.nil ?_
    | with_reducible refine WQ.thenN ?_
    | with_reducible refine WQ.code ?_
    | with_reducible refine WC.seq ?_
    | with_reducible refine WC.region ?_
    | ((with_reducible refine WL.isN_move ?_); first | refine WL.yld rfl (Yld.pure rfl nrmQ) ?_)
    | ((with_reducible refine WL.isN_assign ?_); first | refine WL.yld rfl (Yld.pure rfl nrmQ) ?_)
    | ((with_reducible refine WL.isN_bin ?_); first | refine WL.yld rfl (Yld.pure rfl nrmQ) ?_ | refine WL.yld rfl (Yld.rem rfl rfl rfl rfl (by omega) (by omega)) ?_ | refine WL.yld rfl (Yld.quo rfl rfl rfl rfl (by omega) (by omega) nrmQ) ?_ | refine WL.yld rfl (Yld.eqlB rfl rfl rfl rfl) ?_ | refine WL.yld rfl (Yld.neqB rfl rfl rfl rfl) ?_ | refine WL.yld rfl (Yld.eqlA 4 rfl rfl rfl (by kernel_rfl) (by kernel_rfl) rfl rfl) ?_ | refine WL.yld rfl (Yld.neqA 4 rfl rfl rfl (by kernel_rfl) (by kernel_rfl) rfl rfl) ?_ | refine WL.yld rfl (Yld.quoT rfl rfl rfl rfl (by omega) nrmQ) ?_)
    | ((with_reducible refine WL.isN_load ?_); first | refine WL.yld rfl (Yld.load rfl rfl rfl rfl cellQ) ?_ | refine WL.yld rfl (Yld.loadAgg rfl rfl rfl rfl rfl aggQ) ?_)
    | ((with_reducible refine WL.isN_iaddr ?_); first | refine WL.yld rfl (Yld.indexS 0 rfl rfl rfl rfl rfl rfl (by omega)) ?_ | refine WL.yld rfl (Yld.indexS 1 rfl rfl rfl rfl rfl rfl (by omega)) ?_ | refine WL.yld rfl (Yld.indexS 2 rfl rfl rfl rfl rfl rfl (by omega)) ?_ | refine WL.yld rfl (Yld.indexS _ rfl rfl rfl rfl rfl rfl (by omega)) ?_ | refine WL.yld rfl (Yld.indexA 0 rfl rfl rfl rfl rfl rfl (by omega)) ?_ | refine WL.yld rfl (Yld.indexA 1 rfl rfl rfl rfl rfl rfl (by omega)) ?_ | refine WL.yld rfl (Yld.indexA _ rfl rfl rfl rfl rfl rfl (by omega)) ?_)
    | ((with_reducible refine WL.isN_build ?_); first | refine WL.yld rfl (Yld.build rfl rfl rfl) ?_)
    | ((with_reducible refine WL.isN_pick ?_); first | refine WL.yld rfl (Yld.pickT rfl rfl rfl) ?_ | refine WL.yld rfl (Yld.pickF rfl rfl rfl) ?_ | refine WL.yld rfl (Yld.pickTh rfl rfl gdQ rfl) ?_ | refine WL.yld rfl (Yld.pickFh rfl rfl gdQ rfl) ?_ | refine WL.yld rfl (Yld.pickB rfl rfl rfl rfl) ?_)
    | ((with_reducible refine WL.isN_call ?_); first | refine WL.yld rfl (Yld.lenSlice rfl rfl rfl) ?_ | refine WL.yld rfl (Yld.lenStr rfl rfl rfl) ?_ | refine WL.step rfl (StepTo.append 0 rfl rfl rfl rfl rfl rfl rfl rfl rfl rfl rfl rfl (by first | exact CellsAt.boxAll 0 rfl | exact CellsAt.boxAll 1 rfl | exact CellsAt.boxAll 2 rfl | exact CellsAt.boxAll 3 rfl | exact CellsAt.boxAll 4 rfl) rfl rfl (by omega) (fun _ _ => ⟨_, setQ, ?_⟩)) | refine WL.step rfl (StepTo.append 1 rfl rfl rfl rfl rfl rfl rfl rfl rfl rfl rfl rfl (by first | exact CellsAt.boxAll 0 rfl | exact CellsAt.boxAll 1 rfl | exact CellsAt.boxAll 2 rfl | exact CellsAt.boxAll 3 rfl | exact CellsAt.boxAll 4 rfl) rfl rfl (by omega) (fun _ _ => ⟨_, setQ, ?_⟩)) | refine WL.step rfl (StepTo.append 2 rfl rfl rfl rfl rfl rfl rfl rfl rfl rfl rfl rfl (by first | exact CellsAt.boxAll 0 rfl | exact CellsAt.boxAll 1 rfl | exact CellsAt.boxAll 2 rfl | exact CellsAt.boxAll 3 rfl | exact CellsAt.boxAll 4 rfl) rfl rfl (by omega) (fun _ _ => ⟨_, setQ, ?_⟩)) | refine WL.step rfl (StepTo.append 3 rfl rfl rfl rfl rfl rfl rfl rfl rfl rfl rfl rfl (by first | exact CellsAt.boxAll 0 rfl | exact CellsAt.boxAll 1 rfl | exact CellsAt.boxAll 2 rfl | exact CellsAt.boxAll 3 rfl | exact CellsAt.boxAll 4 rfl) rfl rfl (by omega) (fun _ _ => ⟨_, setQ, ?_⟩)) | refine WL.step rfl (StepTo.append 4 rfl rfl rfl rfl rfl rfl rfl rfl rfl rfl rfl rfl (by first | exact CellsAt.boxAll 0 rfl | exact CellsAt.boxAll 1 rfl | exact CellsAt.boxAll 2 rfl | exact CellsAt.boxAll 3 rfl | exact CellsAt.boxAll 4 rfl) rfl rfl (by omega) (fun _ _ => ⟨_, setQ, ?_⟩)) | refine WL.step rfl (StepTo.append 5 rfl rfl rfl rfl rfl rfl rfl rfl rfl rfl rfl rfl (by first | exact CellsAt.boxAll 0 rfl | exact CellsAt.boxAll 1 rfl | exact CellsAt.boxAll 2 rfl | exact CellsAt.boxAll 3 rfl | exact CellsAt.boxAll 4 rfl) rfl rfl (by omega) (fun _ _ => ⟨_, setQ, ?_⟩)) | refine WL.step rfl (StepTo.append 6 rfl rfl rfl rfl rfl rfl rfl rfl rfl rfl rfl rfl (by first | exact CellsAt.boxAll 0 rfl | exact CellsAt.boxAll 1 rfl | exact CellsAt.boxAll 2 rfl | exact CellsAt.boxAll 3 rfl | exact CellsAt.boxAll 4 rfl) rfl rfl (by omega) (fun _ _ => ⟨_, setQ, ?_⟩)))
    | ((with_reducible refine WL.isT ?_); first | refine WL.skipT rfl rfl rfl rfl gdQ ?_ | refine WL.skipU rfl rfl rfl rfl ?_ | refine WL.runT rfl rfl rfl gdQ ?_)
    | ((with_reducible refine WL.isF ?_); first | refine WL.skipF rfl rfl rfl rfl gdQ ?_ | refine WL.skipU rfl rfl rfl rfl ?_ | refine WL.runF rfl rfl rfl gdQ ?_)
    | ((with_reducible refine WL.isN_bslice ?_); first | refine WL.step rfl (StepTo.buildSlice rfl rfl rfl rfl rfl rfl rfl rfl rfl rfl cellsOfQ (fun _ => ?_)))
    | with_reducible refine WC.block ?_
    | with_reducible refine WC.scope ?_
    | with_reducible refine WC.label ?_
    | with_reducible refine WQ.ngN ?_
    | with_reducible refine WQ.ngR ?_
    | with_reducible refine WQ.ngX ?_
    | with_reducible refine WC.skip ?_
    | with_reducible refine WC.ret ?_
    | with_reducible refine WC.exit ?_
    | with_reducible refine WQ.thenR ?_
    | with_reducible refine WQ.thenX ?_
    | with_reducible refine WQ.blkN ?_
    | with_reducible refine WQ.blkR ?_
    | ((with_reducible refine WQ.blkX ?_ ?_); focus rfl)
    | ((with_reducible refine WQ.blkY ?_ ?_); focus rfl)
    | refine WC.condT rfl ?_
    | refine WC.condF rfl ?_
    | refine WC.condTh rfl gdQ ?_
    | refine WC.condFh rfl gdQ ?_
    | (refine WC.cond rfl (fun hc => ?_) (fun hc => ?_) <;> (try first | (with_reducible replace hc := of_decide_eq_true hc) | (with_reducible replace hc := of_decide_eq_false hc) | (with_reducible replace hc := eqT hc) | (with_reducible replace hc := eqF hc) | (with_reducible replace hc := neT hc) | (with_reducible replace hc := neF hc) | (with_reducible replace hc := noT hc) | (with_reducible replace hc := noF hc)) <;> (try (exfalso; omega))))
    exact WQ.body (Reads.tmp rfl rfl) fun w' hw' => ⟨_, _, rfl, ⟨A', m, c', hm, rfl, rfl⟩, (hw'.pick (idx := [0]) ⟨by decide, rfl⟩).toNew (by simp [Item.mine])⟩
  obtain ⟨x, hxi⟩ : ∃ x, s[i]? = some x := ⟨_, List.getElem?_eq_getElem (by omega)⟩
  have hxr := hsr x (List.mem_of_getElem? hxi)
  have hr := runs_take hxi
  have hrl := runs_len (s.take i)
  rw [List.length_take] at hrl
  have hcov := cov_take hsr hup i (by omega)
  have hbel : ∀ y ∈ s.take i, kf fr y < kf fr x := by
    have h2 : Up fr (s.take i ++ [x]) := by rw [← take_snoc hxi]; exact List.Pairwise.sublist (List.take_sublist _ _) hup
    exact fun y hy => (List.pairwise_append.1 h2).2.2 y hy x (by simp)
  generalize runs (s.take i) = out at *
  refine WC.rowAt 1 rfl (by omega) fun g7 h7 => ?_
  subst h7
  unfold rstep at hr
  rw [← hm] at hr
  by_cases hm0 : m = 0
  · obtain rfl : out = [] := List.eq_nil_of_length_eq_zero (by omega)
    subst hm0
    rw [List.getElem?_nil] at hr
    dsimp only [List.nil_append] at hr
    repeat' (first
    | with_reducible refine WL.nil ?_
    | with_reducible refine WQ.thenN ?_
    | with_reducible refine WQ.code ?_
    | with_reducible refine WC.seq ?_
    | with_reducible refine WC.region ?_
    | ((with_reducible refine WL.isN_move ?_); first | refine WL.yld rfl (Yld.pure rfl nrmQ) ?_)
    | ((with_reducible refine WK.isN_move ?_); first | refine WK.yld rfl (Yld.pure rfl nrmQ) ?_)
    | ((with_reducible refine WL.isN_assign ?_); first | refine WL.yld rfl (Yld.pure rfl nrmQ) ?_)
    | ((with_reducible refine WK.isN_assign ?_); first | refine WK.yld rfl (Yld.pure rfl nrmQ) ?_)
    | ((with_reducible refine WL.isN_bin ?_); first | refine WL.yld rfl (Yld.pure rfl nrmQ) ?_ | refine WL.yld rfl (Yld.rem rfl rfl rfl rfl (by omega) (by omega)) ?_ | refine WL.yld rfl (Yld.quo rfl rfl rfl rfl (by omega) (by omega) nrmQ) ?_ | refine WL.yld rfl (Yld.eqlB rfl rfl rfl rfl) ?_ | refine WL.yld rfl (Yld.neqB rfl rfl rfl rfl) ?_ | refine WL.yld rfl (Yld.eqlA 4 rfl rfl rfl (by kernel_rfl) (by kernel_rfl) rfl rfl) ?_ | refine WL.yld rfl (Yld.neqA 4 rfl rfl rfl (by kernel_rfl) (by kernel_rfl) rfl rfl) ?_ | refine WL.yld rfl (Yld.quoT rfl rfl rfl rfl (by omega) nrmQ) ?_)
    | ((with_reducible refine WK.isN_bin ?_); first | refine WK.yld rfl (Yld.pure rfl nrmQ) ?_ | refine WK.yld rfl (Yld.rem rfl rfl rfl rfl (by omega) (by omega)) ?_ | refine WK.yld rfl (Yld.quo rfl rfl rfl rfl (by omega) (by omega) nrmQ) ?_ | refine WK.yld rfl (Yld.eqlB rfl rfl rfl rfl) ?_ | refine WK.yld rfl (Yld.neqB rfl rfl rfl rfl) ?_ | refine WK.yld rfl (Yld.eqlA 4 rfl rfl rfl (by kernel_rfl) (by kernel_rfl) rfl rfl) ?_ | refine WK.yld rfl (Yld.neqA 4 rfl rfl rfl (by kernel_rfl) (by kernel_rfl) rfl rfl) ?_ | refine WK.yld rfl (Yld.quoT rfl rfl rfl rfl (by omega) nrmQ) ?_)
    | ((with_reducible refine WL.isN_load ?_); first | refine WL.yld rfl (Yld.load rfl rfl rfl rfl cellQ) ?_ | refine WL.yld rfl (Yld.loadAgg rfl rfl rfl rfl rfl aggQ) ?_)
    | ((with_reducible refine WK.isN_load ?_); first | refine WK.yld rfl (Yld.load rfl rfl rfl rfl cellQ) ?_ | refine WK.yld rfl (Yld.loadAgg rfl rfl rfl rfl rfl aggQ) ?_)
    | ((with_reducible refine WL.isN_iaddr ?_); first | refine WL.yld rfl (Yld.indexS 0 rfl rfl rfl rfl rfl rfl (by omega)) ?_ | refine WL.yld rfl (Yld.indexS 1 rfl rfl rfl rfl rfl rfl (by omega)) ?_ | refine WL.yld rfl (Yld.indexS 2 rfl rfl rfl rfl rfl rfl (by omega)) ?_ | refine WL.yld rfl (Yld.indexS _ rfl rfl rfl rfl rfl rfl (by omega)) ?_ | refine WL.yld rfl (Yld.indexA 0 rfl rfl rfl rfl rfl rfl (by omega)) ?_ | refine WL.yld rfl (Yld.indexA 1 rfl rfl rfl rfl rfl rfl (by omega)) ?_ | refine WL.yld rfl (Yld.indexA _ rfl rfl rfl rfl rfl rfl (by omega)) ?_)
    | ((with_reducible refine WK.isN_iaddr ?_); first | refine WK.yld rfl (Yld.indexS 0 rfl rfl rfl rfl rfl rfl (by omega)) ?_ | refine WK.yld rfl (Yld.indexS 1 rfl rfl rfl rfl rfl rfl (by omega)) ?_ | refine WK.yld rfl (Yld.indexS 2 rfl rfl rfl rfl rfl rfl (by omega)) ?_ | refine WK.yld rfl (Yld.indexS _ rfl rfl rfl rfl rfl rfl (by omega)) ?_ | refine WK.yld rfl (Yld.indexA 0 rfl rfl rfl rfl rfl rfl (by omega)) ?_ | refine WK.yld rfl (Yld.indexA 1 rfl rfl rfl rfl rfl rfl (by omega)) ?_ | refine WK.yld rfl (Yld.indexA _ rfl rfl rfl rfl rfl rfl (by omega)) ?_)
    | ((with_reducible refine WL.isN_build ?_); first | refine WL.yld rfl (Yld.build rfl rfl rfl) ?_)
    | ((with_reducible refine WK.isN_build ?_); first | refine WK.yld rfl (Yld.build rfl rfl rfl) ?_)
    | ((with_reducible refine WL.isN_pick ?_); first | refine WL.yld rfl (Yld.pickT rfl rfl rfl) ?_ | refine WL.yld rfl (Yld.pickF rfl rfl rfl) ?_ | refine WL.yld rfl (Yld.pickTh rfl rfl gdQ rfl) ?_ | refine WL.yld rfl (Yld.pickFh rfl rfl gdQ rfl) ?_ | refine WL.yld rfl (Yld.pickB rfl rfl rfl rfl) ?_)
    | ((with_reducible refine WK.isN_pick ?_); first | refine WK.yld rfl (Yld.pickT rfl rfl rfl) ?_ | refine WK.yld rfl (Yld.pickF rfl rfl rfl) ?_ | refine WK.yld rfl (Yld.pickTh rfl rfl gdQ rfl) ?_ | refine WK.yld rfl (Yld.pickFh rfl rfl gdQ rfl) ?_ | refine WK.yld rfl (Yld.pickB rfl rfl rfl rfl) ?_)
    | ((with_reducible refine WL.isN_call ?_); first | refine WL.yld rfl (Yld.lenSlice rfl rfl rfl) ?_ | refine WL.yld rfl (Yld.lenStr rfl rfl rfl) ?_ | refine WL.step rfl (StepTo.append 0 rfl rfl rfl rfl rfl rfl rfl rfl rfl rfl rfl rfl (by first | exact CellsAt.boxAll 0 rfl | exact CellsAt.boxAll 1 rfl | exact CellsAt.boxAll 2 rfl | exact CellsAt.boxAll 3 rfl | exact CellsAt.boxAll 4 rfl) rfl rfl (by omega) (fun _ _ => ⟨_, setQ, ?_⟩)) | refine WL.step rfl (StepTo.append 1 rfl rfl rfl rfl rfl rfl rfl rfl rfl rfl rfl rfl (by first | exact CellsAt.boxAll 0 rfl | exact CellsAt.boxAll 1 rfl | exact CellsAt.boxAll 2 rfl | exact CellsAt.boxAll 3 rfl | exact CellsAt.boxAll 4 rfl) rfl rfl (by omega) (fun _ _ => ⟨_, setQ, ?_⟩)) | refine WL.step rfl (StepTo.append 2 rfl rfl rfl rfl rfl rfl rfl rfl rfl rfl rfl rfl (by first | exact CellsAt.boxAll 0 rfl | exact CellsAt.boxAll 1 rfl | exact CellsAt.boxAll 2 rfl | exact CellsAt.boxAll 3 rfl | exact CellsAt.boxAll 4 rfl) rfl rfl (by omega) (fun _ _ => ⟨_, setQ, ?_⟩)) | refine WL.step rfl (StepTo.append 3 rfl rfl rfl rfl rfl rfl rfl rfl rfl rfl rfl rfl (by first | exact CellsAt.boxAll 0 rfl | exact CellsAt.boxAll 1 rfl | exact CellsAt.boxAll 2 rfl | exact CellsAt.boxAll 3 rfl | exact CellsAt.boxAll 4 rfl) rfl rfl (by omega) (fun _ _ => ⟨_, setQ, ?_⟩)) | refine WL.step rfl (StepTo.append 4 rfl rfl rfl rfl rfl rfl rfl rfl rfl rfl rfl rfl (by first | exact CellsAt.boxAll 0 rfl | exact CellsAt.boxAll 1 rfl | exact CellsAt.boxAll 2 rfl | exact CellsAt.boxAll 3 rfl | exact CellsAt.boxAll 4 rfl) rfl rfl (by omega) (fun _ _ => ⟨_, setQ, ?_⟩)) | refine WL.step rfl (StepTo.append 5 rfl rfl rfl rfl rfl rfl rfl rfl rfl rfl rfl rfl (by first | exact CellsAt.boxAll 0 rfl | exact CellsAt.boxAll 1 rfl | exact CellsAt.boxAll 2 rfl | exact CellsAt.boxAll 3 rfl | exact CellsAt.boxAll 4 rfl) rfl rfl (by omega) (fun _ _ => ⟨_, setQ, ?_⟩)) | refine WL.step rfl (StepTo.append 6 rfl rfl rfl rfl rfl rfl rfl rfl rfl rfl rfl rfl (by first | exact CellsAt.boxAll 0 rfl | exact CellsAt.boxAll 1 rfl | exact CellsAt.boxAll 2 rfl | exact CellsAt.boxAll 3 rfl | exact CellsAt.boxAll 4 rfl) rfl rfl (by omega) (fun _ _ => ⟨_, setQ, ?_⟩)))
    | ((with_reducible refine WK.isN_call ?_); first | refine WK.yld rfl (Yld.lenSlice rfl rfl rfl) ?_ | refine WK.yld rfl (Yld.lenStr rfl rfl rfl) ?_)
    | ((with_reducible refine WL.isT ?_); first | refine WL.skipT rfl rfl rfl rfl gdQ ?_ | refine WL.skipU rfl rfl rfl rfl ?_ | refine WL.runT rfl rfl rfl gdQ ?_)
    | ((with_reducible refine WK.isT ?_); first | refine WK.skipT rfl rfl rfl rfl gdQ ?_ | refine WK.skipU rfl rfl rfl rfl ?_ | refine WK.runT rfl rfl rfl gdQ ?_)
    | ((with_reducible refine WL.isF ?_); first | refine WL.skipF rfl rfl rfl rfl gdQ ?_ | refine WL.skipU rfl rfl rfl rfl ?_ | refine WL.runF rfl rfl rfl gdQ ?_)
    | ((with_reducible refine WK.isF ?_); first | refine WK.skipF rfl rfl rfl rfl gdQ ?_ | refine WK.skipU rfl rfl rfl rfl ?_ | refine WK.runF rfl rfl rfl gdQ ?_)
    | ((with_reducible refine WL.isN_bslice ?_); first | refine WL.step rfl (StepTo.buildSlice rfl rfl rfl rfl rfl rfl rfl rfl rfl rfl cellsOfQ (fun _ => ?_)))
    | with_reducible refine WC.block ?_
    | with_reducible refine WC.scope ?_
    | with_reducible refine WC.label ?_
    | with_reducible refine WQ.ngN ?_
    | with_reducible refine WQ.ngR ?_
    | with_reducible refine WQ.ngX ?_
    | with_reducible refine WC.skip ?_
    | with_reducible refine WC.ret ?_
    | with_reducible refine WC.exit ?_
    | with_reducible refine WQ.thenR ?_
    | with_reducible refine WQ.thenX ?_
    | with_reducible refine WQ.blkN ?_
    | with_reducible refine WQ.blkR ?_
    | ((with_reducible refine WQ.blkX ?_ ?_); focus rfl)
    | ((with_reducible refine WQ.blkY ?_ ?_); focus rfl)
    | (refine WC.quiet (i := 7) (by kernel_rfl) (by kernel_rfl) ?_)
    | with_reducible refine WK.nil ?_
    | refine WC.condT rfl ?_
    | refine WC.condF rfl ?_
    | refine WC.condTh rfl gdQ ?_
    | refine WC.condFh rfl gdQ ?_
    | (refine WC.cond rfl (fun hc => ?_) (fun hc => ?_) <;> (try first | (with_reducible replace hc := of_decide_eq_true hc) | (with_reducible replace hc := of_decide_eq_false hc) | (with_reducible replace hc := eqT hc) | (with_reducible replace hc := eqF hc) | (with_reducible replace hc := neT hc) | (with_reducible replace hc := neF hc) | (with_reducible replace hc := noT hc) | (with_reducible replace hc := noF hc)) <;> (try (exfalso; omega))))
    refine WC.cutN (fun τ H => ∃ A2 c2, τ = [(1, .int .i64 fr), (5, .slice (some ⟨g7, 0, none⟩) k7 c7), (6, .slice A2 1 c2), (7, .int .i64 i)] ∧ H = [.row A2 1 c2 34 2 (flat (pc .i64) [(x, x)]), .row (some ⟨g7, 0, none⟩) k7 c7 3 1 (flat (ic .i64) s)]) ?_ ?_
    refine WC.anyI [1] (by kernel_rfl) ?_
    refine WA.take (idx := [1]) 0 rfl (by kernel_rfl) (by kernel_rfl) (by kernel_rfl) rfl ⟨by decide, rfl⟩ (Yld.pure rfl nrmQ) ?_
    refine WA.take (idx := [1]) 1 rfl (by kernel_rfl) (by kernel_rfl) (by kernel_rfl) rfl ⟨by decide, rfl⟩ (Yld.pure rfl nrmQ) ?_
    refine WA.take (idx := [1]) 2 rfl (by kernel_rfl) (by kernel_rfl) (by kernel_rfl) rfl ⟨by decide, rfl⟩ (Yld.pure rfl nrmQ) ?_
    refine WA.take (idx := [1]) 3 rfl (by kernel_rfl) (by kernel_rfl) (by kernel_rfl) rfl ⟨by decide, rfl⟩ (by first | exact Yld.indexS i rfl rfl rfl rfl rfl rfl (by omega) | exact Yld.indexS 0 rfl rfl rfl rfl rfl rfl (by omega) | exact Yld.indexS 1 rfl rfl rfl rfl rfl rfl (by omega) | exact Yld.indexS 2 rfl rfl rfl rfl rfl rfl (by omega) | exact Yld.indexS _ rfl rfl rfl rfl rfl rfl (by omega) | exact Yld.indexA 0 rfl rfl rfl rfl rfl rfl (by omega) | exact Yld.indexA 1 rfl rfl rfl rfl rfl rfl (by omega) | exact Yld.indexA _ rfl rfl rfl rfl rfl rfl (by omega)) ?_
    refine WA.take (idx := [1]) 4 rfl (by kernel_rfl) (by kernel_rfl) (by kernel_rfl) rfl ⟨by decide, rfl⟩ (by first | exact Yld.load rfl rfl rfl rfl (CellAt.rowE 0 rfl (ic_get hxi) (by omega)) | exact Yld.load rfl rfl rfl rfl cellQ | exact Yld.loadAgg rfl rfl rfl rfl rfl aggQ) ?_
    refine WA.take (idx := [1]) 5 rfl (by kernel_rfl) (by kernel_rfl) (by kernel_rfl) rfl ⟨by decide, rfl⟩ (Yld.pure rfl nrmQ) ?_
    refine WA.take (idx := [1]) 6 rfl (by kernel_rfl) (by kernel_rfl) (by kernel_rfl) rfl ⟨by decide, rfl⟩ (Yld.pure rfl nrmQ) ?_
    refine WA.take (idx := [1]) 7 rfl (by kernel_rfl) (by kernel_rfl) (by kernel_rfl) rfl ⟨by decide, rfl⟩ (by first | exact Yld.indexS i rfl rfl rfl rfl rfl rfl (by omega) | exact Yld.indexS 0 rfl rfl rfl rfl rfl rfl (by omega) | exact Yld.indexS 1 rfl rfl rfl rfl rfl rfl (by omega) | exact Yld.indexS 2 rfl rfl rfl rfl rfl rfl (by omega) | exact Yld.indexS _ rfl rfl rfl rfl rfl rfl (by omega) | exact Yld.indexA 0 rfl rfl rfl rfl rfl rfl (by omega) | exact Yld.indexA 1 rfl rfl rfl rfl rfl rfl (by omega) | exact Yld.indexA _ rfl rfl rfl rfl rfl rfl (by omega)) ?_
    refine WA.take (idx := [1]) 8 rfl (by kernel_rfl) (by kernel_rfl) (by kernel_rfl) rfl ⟨by decide, rfl⟩ (by first | exact Yld.load rfl rfl rfl rfl (CellAt.rowE 0 rfl (ic_get hxi) (by omega)) | exact Yld.load rfl rfl rfl rfl cellQ | exact Yld.loadAgg rfl rfl rfl rfl rfl aggQ) ?_
    refine WA.take (idx := [1]) 9 rfl (by kernel_rfl) (by kernel_rfl) (by kernel_rfl) rfl ⟨by decide, rfl⟩ (Yld.build rfl rfl rfl) ?_
    refine WA.one 10 (by kernel_rfl) rfl rfl ?_
    refine StepTo.buildSlice rfl rfl rfl rfl rfl rfl rfl rfl rfl rfl cellsOfQ (fun _ => ⟨⟨[2], by decide, rfl⟩, ?_⟩)
    refine WA.one 11 (by kernel_rfl) rfl rfl ?_
    refine StepTo.appendTo 1 (flat (pc .i64) [(x, x)]) rfl rfl rfl rfl rfl rfl rfl rfl rfl rfl rfl rfl (CellsAt.boxAll 0 rfl) rfl rfl (by omega) rfl (fun _ _ => ⟨_, setQ, ⟨[2], by decide, rfl⟩, ?_⟩)
    refine WA.take (idx := [2]) 12 rfl (by kernel_rfl) (by kernel_rfl) (by kernel_rfl) rfl ⟨by decide, rfl⟩ (Yld.pure rfl nrmQ) ?_
    refine WA.done (by kernel_rfl) ?_
    exact WQ.thenN (WQ.met _ _ [1, 2] (by repeat (first | exact Sub.nil | refine Sub.cons rfl ?_ | refine Sub.consE rfl (int_eq (by omega)) ?_)) ⟨by decide, rfl⟩ ⟨_, _, rfl, rfl⟩)
    rintro τ H ⟨A2, c2, rfl, rfl⟩
    repeat' (first
    | with_reducible refine WL.nil ?_
    | with_reducible refine WQ.thenN ?_
    | with_reducible refine WQ.code ?_
    | with_reducible refine WC.seq ?_
    | with_reducible refine WC.region ?_
    | ((with_reducible refine WL.isN_move ?_); first | refine WL.yld rfl (Yld.pure rfl nrmQ) ?_)
    | ((with_reducible refine WL.isN_assign ?_); first | refine WL.yld rfl (Yld.pure rfl nrmQ) ?_)
    | ((with_reducible refine WL.isN_bin ?_); first | refine WL.yld rfl (Yld.pure rfl nrmQ) ?_ | refine WL.yld rfl (Yld.rem rfl rfl rfl rfl (by omega) (by omega)) ?_ | refine WL.yld rfl (Yld.quo rfl rfl rfl rfl (by omega) (by omega) nrmQ) ?_ | refine WL.yld rfl (Yld.eqlB rfl rfl rfl rfl) ?_ | refine WL.yld rfl (Yld.neqB rfl rfl rfl rfl) ?_ | refine WL.yld rfl (Yld.eqlA 4 rfl rfl rfl (by kernel_rfl) (by kernel_rfl) rfl rfl) ?_ | refine WL.yld rfl (Yld.neqA 4 rfl rfl rfl (by kernel_rfl) (by kernel_rfl) rfl rfl) ?_ | refine WL.yld rfl (Yld.quoT rfl rfl rfl rfl (by omega) nrmQ) ?_)
    | ((with_reducible refine WL.isN_load ?_); first | refine WL.yld rfl (Yld.load rfl rfl rfl rfl cellQ) ?_ | refine WL.yld rfl (Yld.loadAgg rfl rfl rfl rfl rfl aggQ) ?_)
    | ((with_reducible refine WL.isN_iaddr ?_); first | refine WL.yld rfl (Yld.indexS 0 rfl rfl rfl rfl rfl rfl (by omega)) ?_ | refine WL.yld rfl (Yld.indexS 1 rfl rfl rfl rfl rfl rfl (by omega)) ?_ | refine WL.yld rfl (Yld.indexS 2 rfl rfl rfl rfl rfl rfl (by omega)) ?_ | refine WL.yld rfl (Yld.indexS _ rfl rfl rfl rfl rfl rfl (by omega)) ?_ | refine WL.yld rfl (Yld.indexA 0 rfl rfl rfl rfl rfl rfl (by omega)) ?_ | refine WL.yld rfl (Yld.indexA 1 rfl rfl rfl rfl rfl rfl (by omega)) ?_ | refine WL.yld rfl (Yld.indexA _ rfl rfl rfl rfl rfl rfl (by omega)) ?_)
    | ((with_reducible refine WL.isN_build ?_); first | refine WL.yld rfl (Yld.build rfl rfl rfl) ?_)
    | ((with_reducible refine WL.isN_pick ?_); first | refine WL.yld rfl (Yld.pickT rfl rfl rfl) ?_ | refine WL.yld rfl (Yld.pickF rfl rfl rfl) ?_ | refine WL.yld rfl (Yld.pickTh rfl rfl gdQ rfl) ?_ | refine WL.yld rfl (Yld.pickFh rfl rfl gdQ rfl) ?_ | refine WL.yld rfl (Yld.pickB rfl rfl rfl rfl) ?_)
    | ((with_reducible refine WL.isN_call ?_); first | refine WL.yld rfl (Yld.lenSlice rfl rfl rfl) ?_ | refine WL.yld rfl (Yld.lenStr rfl rfl rfl) ?_ | refine WL.step rfl (StepTo.append 0 rfl rfl rfl rfl rfl rfl rfl rfl rfl rfl rfl rfl (by first | exact CellsAt.boxAll 0 rfl | exact CellsAt.boxAll 1 rfl | exact CellsAt.boxAll 2 rfl | exact CellsAt.boxAll 3 rfl | exact CellsAt.boxAll 4 rfl) rfl rfl (by omega) (fun _ _ => ⟨_, setQ, ?_⟩)) | refine WL.step rfl (StepTo.append 1 rfl rfl rfl rfl rfl rfl rfl rfl rfl rfl rfl rfl (by first | exact CellsAt.boxAll 0 rfl | exact CellsAt.boxAll 1 rfl | exact CellsAt.boxAll 2 rfl | exact CellsAt.boxAll 3 rfl | exact CellsAt.boxAll 4 rfl) rfl rfl (by omega) (fun _ _ => ⟨_, setQ, ?_⟩)) | refine WL.step rfl (StepTo.append 2 rfl rfl rfl rfl rfl rfl rfl rfl rfl rfl rfl rfl (by first | exact CellsAt.boxAll 0 rfl | exact CellsAt.boxAll 1 rfl | exact CellsAt.boxAll 2 rfl | exact CellsAt.boxAll 3 rfl | exact CellsAt.boxAll 4 rfl) rfl rfl (by omega) (fun _ _ => ⟨_, setQ, ?_⟩)) | refine WL.step rfl (StepTo.append 3 rfl rfl rfl rfl rfl rfl rfl rfl rfl rfl rfl rfl (by first | exact CellsAt.boxAll 0 rfl | exact CellsAt.boxAll 1 rfl | exact CellsAt.boxAll 2 rfl | exact CellsAt.boxAll 3 rfl | exact CellsAt.boxAll 4 rfl) rfl rfl (by omega) (fun _ _ => ⟨_, setQ, ?_⟩)) | refine WL.step rfl (StepTo.append 4 rfl rfl rfl rfl rfl rfl rfl rfl rfl rfl rfl rfl (by first | exact CellsAt.boxAll 0 rfl | exact CellsAt.boxAll 1 rfl | exact CellsAt.boxAll 2 rfl | exact CellsAt.boxAll 3 rfl | exact CellsAt.boxAll 4 rfl) rfl rfl (by omega) (fun _ _ => ⟨_, setQ, ?_⟩)) | refine WL.step rfl (StepTo.append 5 rfl rfl rfl rfl rfl rfl rfl rfl rfl rfl rfl rfl (by first | exact CellsAt.boxAll 0 rfl | exact CellsAt.boxAll 1 rfl | exact CellsAt.boxAll 2 rfl | exact CellsAt.boxAll 3 rfl | exact CellsAt.boxAll 4 rfl) rfl rfl (by omega) (fun _ _ => ⟨_, setQ, ?_⟩)) | refine WL.step rfl (StepTo.append 6 rfl rfl rfl rfl rfl rfl rfl rfl rfl rfl rfl rfl (by first | exact CellsAt.boxAll 0 rfl | exact CellsAt.boxAll 1 rfl | exact CellsAt.boxAll 2 rfl | exact CellsAt.boxAll 3 rfl | exact CellsAt.boxAll 4 rfl) rfl rfl (by omega) (fun _ _ => ⟨_, setQ, ?_⟩)))
    | ((with_reducible refine WL.isT ?_); first | refine WL.skipT rfl rfl rfl rfl gdQ ?_ | refine WL.skipU rfl rfl rfl rfl ?_ | refine WL.runT rfl rfl rfl gdQ ?_)
    | ((with_reducible refine WL.isF ?_); first | refine WL.skipF rfl rfl rfl rfl gdQ ?_ | refine WL.skipU rfl rfl rfl rfl ?_ | refine WL.runF rfl rfl rfl gdQ ?_)
    | ((with_reducible refine WL.isN_bslice ?_); first | refine WL.step rfl (StepTo.buildSlice rfl rfl rfl rfl rfl rfl rfl rfl rfl rfl cellsOfQ (fun _ => ?_)))
    | with_reducible refine WC.block ?_
    | with_reducible refine WC.scope ?_
    | with_reducible refine WC.label ?_
    | with_reducible refine WQ.ngN ?_
    | with_reducible refine WQ.ngR ?_
    | with_reducible refine WQ.ngX ?_
    | with_reducible refine WC.skip ?_
    | with_reducible refine WC.ret ?_
    | with_reducible refine WC.exit ?_
    | with_reducible refine WQ.thenR ?_
    | with_reducible refine WQ.thenX ?_
    | with_reducible refine WQ.blkN ?_
    | with_reducible refine WQ.blkR ?_
    | ((with_reducible refine WQ.blkX ?_ ?_); focus rfl)
    | ((with_reducible refine WQ.blkY ?_ ?_); focus rfl)
    | refine WC.condT rfl ?_
    | refine WC.condF rfl ?_
    | refine WC.condTh rfl gdQ ?_
    | refine WC.condFh rfl gdQ ?_
    | (refine WC.cond rfl (fun hc => ?_) (fun hc => ?_) <;> (try first | (with_reducible replace hc := of_decide_eq_true hc) | (with_reducible replace hc := of_decide_eq_false hc) | (with_reducible replace hc := eqT hc) | (with_reducible replace hc := eqF hc) | (with_reducible replace hc := neT hc) | (with_reducible replace hc := neF hc) | (with_reducible replace hc := noT hc) | (with_reducible replace hc := noF hc)) <;> (try (exfalso; omega))))
    rw [← hr]
    exact WQ.rnd (k7 - (i + 1)) _ _ [0, 1] (by repeat (first | exact Sub.nil | refine Sub.cons rfl ?_ | refine Sub.consE rfl (int_eq (by omega)) ?_)) ⟨by decide, rfl⟩ (by omega) ⟨i + 1, 1, _, _, by omega, rfl, by rw [hr]; rfl, rfl, rfl⟩
  refine WC.rowAt 0 rfl (by omega) fun g5 h5 => ?_
  subst h5
  obtain ⟨q, rfl⟩ : ∃ q, m = q + 1 := ⟨m - 1, by omega⟩
  obtain ⟨p, hp⟩ : ∃ p, out[q]? = some p := ⟨_, List.getElem?_eq_getElem (by omega)⟩
  rw [Nat.add_sub_cancel, hp] at hr
  dsimp only at hr
  have hpm := hcov.each p (List.mem_of_getElem? hp)
  have hpl : kf fr p.2 < kf fr x := by
    have h1 := hcov.last
    rw [← hm, Nat.add_sub_cancel, hp] at h1
    exact hbel _ (List.mem_of_getElem? h1.symm)
  have hkx := kf_hi fr x
  have hk0 := kf_lo fr x
  have hkp := kf_lo fr p.2
  have hiff : (p.2 + 1) % 4294967296 = x ↔ kf fr x = kf fr p.2 + 1 := by
    have h1 := hpm.2.1
    unfold kf RU at *
    constructor <;> intro h <;> omega
  have hdrop : out.take q ++ [p] = out := by rw [← take_snoc hp, hm, List.take_length]
  by_cases hx1 : (p.2 + 1) % 4294967296 = x
  · rw [if_pos hx1] at hr
    have hg := beqT (hiff.1 hx1)
    have hset : out.set q (p.1, x) = out.take q ++ [(p.1, x)] := by
      rw [List.set_eq_take_append_cons_drop, if_pos (by omega), List.drop_of_length_le (by omega)]
    rw [hset] at hr
    repeat' (first
    | with_reducible refine WL.nil ?_
    | with_reducible refine WQ.thenN ?_
    | with_reducible refine WQ.code ?_
    | with_reducible refine WC.seq ?_
    | with_reducible refine WC.region ?_
    | ((with_reducible refine WL.isN_move ?_); first | refine WL.yld rfl (Yld.pure rfl nrmQ) ?_)
    | ((with_reducible refine WK.isN_move ?_); first | refine WK.yld rfl (Yld.pure rfl nrmQ) ?_)
    | ((with_reducible refine WL.isN_assign ?_); first | refine WL.yld rfl (Yld.pure rfl nrmQ) ?_)
    | ((with_reducible refine WK.isN_assign ?_); first | refine WK.yld rfl (Yld.pure rfl nrmQ) ?_)
    | ((with_reducible refine WL.isN_bin ?_); first | refine WL.yld rfl (Yld.pure rfl nrmQ) ?_ | refine WL.yld rfl (Yld.rem rfl rfl rfl rfl (by omega) (by omega)) ?_ | refine WL.yld rfl (Yld.quo rfl rfl rfl rfl (by omega) (by omega) nrmQ) ?_ | refine WL.yld rfl (Yld.eqlB rfl rfl rfl rfl) ?_ | refine WL.yld rfl (Yld.neqB rfl rfl rfl rfl) ?_ | refine WL.yld rfl (Yld.eqlA 4 rfl rfl rfl (by kernel_rfl) (by kernel_rfl) rfl rfl) ?_ | refine WL.yld rfl (Yld.neqA 4 rfl rfl rfl (by kernel_rfl) (by kernel_rfl) rfl rfl) ?_ | refine WL.yld rfl (Yld.quoT rfl rfl rfl rfl (by omega) nrmQ) ?_)
    | ((with_reducible refine WK.isN_bin ?_); first | refine WK.yld rfl (Yld.pure rfl nrmQ) ?_ | refine WK.yld rfl (Yld.rem rfl rfl rfl rfl (by omega) (by omega)) ?_ | refine WK.yld rfl (Yld.quo rfl rfl rfl rfl (by omega) (by omega) nrmQ) ?_ | refine WK.yld rfl (Yld.eqlB rfl rfl rfl rfl) ?_ | refine WK.yld rfl (Yld.neqB rfl rfl rfl rfl) ?_ | refine WK.yld rfl (Yld.eqlA 4 rfl rfl rfl (by kernel_rfl) (by kernel_rfl) rfl rfl) ?_ | refine WK.yld rfl (Yld.neqA 4 rfl rfl rfl (by kernel_rfl) (by kernel_rfl) rfl rfl) ?_ | refine WK.yld rfl (Yld.quoT rfl rfl rfl rfl (by omega) nrmQ) ?_)
    | ((with_reducible refine WL.isN_load ?_); first | refine WL.yld rfl (Yld.load rfl rfl rfl rfl (CellAt.rowE 1 rfl (ic_get hxi) (by omega))) ?_ | refine WL.yld rfl (Yld.load rfl rfl rfl rfl (CellAt.rowE 0 rfl (pc_get1 hp) (by omega))) ?_ | refine WL.yld rfl (Yld.load rfl rfl rfl rfl cellQ) ?_ | refine WL.yld rfl (Yld.loadAgg rfl rfl rfl rfl rfl aggQ) ?_)
    | ((with_reducible refine WK.isN_load ?_); first | refine WK.yld rfl (Yld.load rfl rfl rfl rfl (CellAt.rowE 1 rfl (ic_get hxi) (by omega))) ?_ | refine WK.yld rfl (Yld.load rfl rfl rfl rfl (CellAt.rowE 0 rfl (pc_get1 hp) (by omega))) ?_ | refine WK.yld rfl (Yld.load rfl rfl rfl rfl cellQ) ?_ | refine WK.yld rfl (Yld.loadAgg rfl rfl rfl rfl rfl aggQ) ?_)
    | ((with_reducible refine WL.isN_iaddr ?_); first | refine WL.yld rfl (Yld.indexS i rfl rfl rfl rfl rfl rfl (by omega)) ?_ | refine WL.yld rfl (Yld.indexS q rfl rfl rfl rfl rfl (by omega) (by omega)) ?_ | refine WL.yld rfl (Yld.indexS 0 rfl rfl rfl rfl rfl rfl (by omega)) ?_ | refine WL.yld rfl (Yld.indexS 1 rfl rfl rfl rfl rfl rfl (by omega)) ?_ | refine WL.yld rfl (Yld.indexS 2 rfl rfl rfl rfl rfl rfl (by omega)) ?_ | refine WL.yld rfl (Yld.indexS _ rfl rfl rfl rfl rfl rfl (by omega)) ?_ | refine WL.yld rfl (Yld.indexA 0 rfl rfl rfl rfl rfl rfl (by omega)) ?_ | refine WL.yld rfl (Yld.indexA 1 rfl rfl rfl rfl rfl rfl (by omega)) ?_ | refine WL.yld rfl (Yld.indexA _ rfl rfl rfl rfl rfl rfl (by omega)) ?_)
    | ((with_reducible refine WK.isN_iaddr ?_); first | refine WK.yld rfl (Yld.indexS i rfl rfl rfl rfl rfl rfl (by omega)) ?_ | refine WK.yld rfl (Yld.indexS q rfl rfl rfl rfl rfl (by omega) (by omega)) ?_ | refine WK.yld rfl (Yld.indexS 0 rfl rfl rfl rfl rfl rfl (by omega)) ?_ | refine WK.yld rfl (Yld.indexS 1 rfl rfl rfl rfl rfl rfl (by omega)) ?_ | refine WK.yld rfl (Yld.indexS 2 rfl rfl rfl rfl rfl rfl (by omega)) ?_ | refine WK.yld rfl (Yld.indexS _ rfl rfl rfl rfl rfl rfl (by omega)) ?_ | refine WK.yld rfl (Yld.indexA 0 rfl rfl rfl rfl rfl rfl (by omega)) ?_ | refine WK.yld rfl (Yld.indexA 1 rfl rfl rfl rfl rfl rfl (by omega)) ?_ | refine WK.yld rfl (Yld.indexA _ rfl rfl rfl rfl rfl rfl (by omega)) ?_)
    | ((with_reducible refine WL.isN_build ?_); first | refine WL.yld rfl (Yld.build rfl rfl rfl) ?_)
    | ((with_reducible refine WK.isN_build ?_); first | refine WK.yld rfl (Yld.build rfl rfl rfl) ?_)
    | ((with_reducible refine WL.isN_pick ?_); first | refine WL.yld rfl (Yld.pickT rfl rfl rfl) ?_ | refine WL.yld rfl (Yld.pickF rfl rfl rfl) ?_ | refine WL.yld rfl (Yld.pickTh rfl rfl gdQ rfl) ?_ | refine WL.yld rfl (Yld.pickFh rfl rfl gdQ rfl) ?_ | refine WL.yld rfl (Yld.pickB rfl rfl rfl rfl) ?_)
    | ((with_reducible refine WK.isN_pick ?_); first | refine WK.yld rfl (Yld.pickT rfl rfl rfl) ?_ | refine WK.yld rfl (Yld.pickF rfl rfl rfl) ?_ | refine WK.yld rfl (Yld.pickTh rfl rfl gdQ rfl) ?_ | refine WK.yld rfl (Yld.pickFh rfl rfl gdQ rfl) ?_ | refine WK.yld rfl (Yld.pickB rfl rfl rfl rfl) ?_)
    | ((with_reducible refine WL.isN_call ?_); first | refine WK.step rfl (Qui.call (v := .int .i64 (kf fr x)) (us := [.int .i64 x, .int .i64 fr, .int .i64 4294967296]) rfl rfl rfl (by kernel_rfl) (fun w _ => rabove_q x fr w hxr hfr)) ?_ | refine WK.step rfl (Qui.call (v := .int .i64 (kf fr p.2)) (us := [.int .i64 p.2, .int .i64 fr, .int .i64 4294967296]) rfl rfl rfl (by kernel_rfl) (fun w _ => rabove_q p.2 fr w hpm.2.1 hfr)) ?_ | refine WL.yld rfl (Yld.lenSlice rfl rfl rfl) ?_ | refine WL.yld rfl (Yld.lenStr rfl rfl rfl) ?_ | refine WL.step rfl (StepTo.append 0 rfl rfl rfl rfl rfl rfl rfl rfl rfl rfl rfl rfl (by first | exact CellsAt.boxAll 0 rfl | exact CellsAt.boxAll 1 rfl | exact CellsAt.boxAll 2 rfl | exact CellsAt.boxAll 3 rfl | exact CellsAt.boxAll 4 rfl) rfl rfl (by omega) (fun _ _ => ⟨_, setQ, ?_⟩)) | refine WL.step rfl (StepTo.append 1 rfl rfl rfl rfl rfl rfl rfl rfl rfl rfl rfl rfl (by first | exact CellsAt.boxAll 0 rfl | exact CellsAt.boxAll 1 rfl | exact CellsAt.boxAll 2 rfl | exact CellsAt.boxAll 3 rfl | exact CellsAt.boxAll 4 rfl) rfl rfl (by omega) (fun _ _ => ⟨_, setQ, ?_⟩)) | refine WL.step rfl (StepTo.append 2 rfl rfl rfl rfl rfl rfl rfl rfl rfl rfl rfl rfl (by first | exact CellsAt.boxAll 0 rfl | exact CellsAt.boxAll 1 rfl | exact CellsAt.boxAll 2 rfl | exact CellsAt.boxAll 3 rfl | exact CellsAt.boxAll 4 rfl) rfl rfl (by omega) (fun _ _ => ⟨_, setQ, ?_⟩)) | refine WL.step rfl (StepTo.append 3 rfl rfl rfl rfl rfl rfl rfl rfl rfl rfl rfl rfl (by first | exact CellsAt.boxAll 0 rfl | exact CellsAt.boxAll 1 rfl | exact CellsAt.boxAll 2 rfl | exact CellsAt.boxAll 3 rfl | exact CellsAt.boxAll 4 rfl) rfl rfl (by omega) (fun _ _ => ⟨_, setQ, ?_⟩)) | refine WL.step rfl (StepTo.append 4 rfl rfl rfl rfl rfl rfl rfl rfl rfl rfl rfl rfl (by first | exact CellsAt.boxAll 0 rfl | exact CellsAt.boxAll 1 rfl | exact CellsAt.boxAll 2 rfl | exact CellsAt.boxAll 3 rfl | exact CellsAt.boxAll 4 rfl) rfl rfl (by omega) (fun _ _ => ⟨_, setQ, ?_⟩)) | refine WL.step rfl (StepTo.append 5 rfl rfl rfl rfl rfl rfl rfl rfl rfl rfl rfl rfl (by first | exact CellsAt.boxAll 0 rfl | exact CellsAt.boxAll 1 rfl | exact CellsAt.boxAll 2 rfl | exact CellsAt.boxAll 3 rfl | exact CellsAt.boxAll 4 rfl) rfl rfl (by omega) (fun _ _ => ⟨_, setQ, ?_⟩)) | refine WL.step rfl (StepTo.append 6 rfl rfl rfl rfl rfl rfl rfl rfl rfl rfl rfl rfl (by first | exact CellsAt.boxAll 0 rfl | exact CellsAt.boxAll 1 rfl | exact CellsAt.boxAll 2 rfl | exact CellsAt.boxAll 3 rfl | exact CellsAt.boxAll 4 rfl) rfl rfl (by omega) (fun _ _ => ⟨_, setQ, ?_⟩)))
    | ((with_reducible refine WK.isN_call ?_); first | refine WK.step rfl (Qui.call (v := .int .i64 (kf fr x)) (us := [.int .i64 x, .int .i64 fr, .int .i64 4294967296]) rfl rfl rfl (by kernel_rfl) (fun w _ => rabove_q x fr w hxr hfr)) ?_ | refine WK.step rfl (Qui.call (v := .int .i64 (kf fr p.2)) (us := [.int .i64 p.2, .int .i64 fr, .int .i64 4294967296]) rfl rfl rfl (by kernel_rfl) (fun w _ => rabove_q p.2 fr w hpm.2.1 hfr)) ?_ | refine WK.yld rfl (Yld.lenSlice rfl rfl rfl) ?_ | refine WK.yld rfl (Yld.lenStr rfl rfl rfl) ?_)
    | ((with_reducible refine WL.isT ?_); first | refine WL.skipT rfl rfl rfl rfl gdQ ?_ | refine WL.skipU rfl rfl rfl rfl ?_ | refine WL.runT rfl rfl rfl gdQ ?_)
    | ((with_reducible refine WK.isT ?_); first | refine WK.skipT rfl rfl rfl rfl gdQ ?_ | refine WK.skipU rfl rfl rfl rfl ?_ | refine WK.runT rfl rfl rfl gdQ ?_)
    | ((with_reducible refine WL.isF ?_); first | refine WL.skipF rfl rfl rfl rfl gdQ ?_ | refine WL.skipU rfl rfl rfl rfl ?_ | refine WL.runF rfl rfl rfl gdQ ?_)
    | ((with_reducible refine WK.isF ?_); first | refine WK.skipF rfl rfl rfl rfl gdQ ?_ | refine WK.skipU rfl rfl rfl rfl ?_ | refine WK.runF rfl rfl rfl gdQ ?_)
    | ((with_reducible refine WL.isN_bslice ?_); first | refine WL.step rfl (StepTo.buildSlice rfl rfl rfl rfl rfl rfl rfl rfl rfl rfl cellsOfQ (fun _ => ?_)))
    | with_reducible refine WC.block ?_
    | with_reducible refine WC.scope ?_
    | with_reducible refine WC.label ?_
    | with_reducible refine WQ.ngN ?_
    | with_reducible refine WQ.ngR ?_
    | with_reducible refine WQ.ngX ?_
    | with_reducible refine WC.skip ?_
    | with_reducible refine WC.ret ?_
    | with_reducible refine WC.exit ?_
    | with_reducible refine WQ.thenR ?_
    | with_reducible refine WQ.thenX ?_
    | with_reducible refine WQ.blkN ?_
    | with_reducible refine WQ.blkR ?_
    | ((with_reducible refine WQ.blkX ?_ ?_); focus rfl)
    | ((with_reducible refine WQ.blkY ?_ ?_); focus rfl)
    | (refine WC.quiet (i := 7) (by kernel_rfl) (by kernel_rfl) ?_)
    | with_reducible refine WK.nil ?_
    | refine WC.condT rfl ?_
    | refine WC.condF rfl ?_
    | refine WC.condTh rfl gdQ ?_
    | refine WC.condFh rfl gdQ ?_
    | (refine WC.cond rfl (fun hc => ?_) (fun hc => ?_) <;> (try first | (with_reducible replace hc := of_decide_eq_true hc) | (with_reducible replace hc := of_decide_eq_false hc) | (with_reducible replace hc := eqT hc) | (with_reducible replace hc := eqF hc) | (with_reducible replace hc := neT hc) | (with_reducible replace hc := neF hc) | (with_reducible replace hc := noT hc) | (with_reducible replace hc := noF hc)) <;> (try (exfalso; omega))))
    have hlP : (flat (pc .i64) (out.take q)).length = q * 2 := by rw [flat_len (pc_len .i64), List.length_take]; omega
    have hadd : flat (pc .i64) (out.take q) ++ [.int .i64 p.1, .int .i64 x] = flat (pc .i64) (out.take q ++ [(p.1, x)]) := by rw [flat_append]; rfl
    refine WC.capRow 0 rfl fun capR => ?_
    refine WC.rowVw 0 rfl (by omega) ?_
    refine WC.vwCut 0 rfl 0 q c' (some ⟨g5, 0, none⟩) (flat (pc .i64) (out.take q)) (by omega) capR cutA_zero (by rw [Nat.zero_mul, List.drop_zero, ← flat_take (pc_len .i64)]) ?_
    refine WC.cutN (fun τ H => ∃ m2 A2 c2, m2 = q + 1 ∧ τ = [(1, .int .i64 fr), (5, .slice (some ⟨g7, 0, none⟩) k7 c7), (6, .slice A2 m2 c2), (7, .int .i64 i)] ∧ H = [.row A2 m2 c2 34 2 (flat (pc .i64) (out.take q ++ [(p.1, x)])), .row (some ⟨g7, 0, none⟩) k7 c7 3 1 (flat (ic .i64) s)]) ?_ ?_
    refine WC.anyI [1, 2] (by kernel_rfl) ?_
    refine WA.take (idx := [1, 2]) 1 rfl (by kernel_rfl) (by kernel_rfl) (by kernel_rfl) rfl ⟨by decide, rfl⟩ (Yld.pure rfl nrmQ) ?_
    refine WA.take (idx := [1, 2]) 2 rfl (by kernel_rfl) (by kernel_rfl) (by kernel_rfl) rfl ⟨by decide, rfl⟩ (Yld.pure rfl nrmQ) ?_
    refine WA.take (idx := [1, 2]) 3 rfl (by kernel_rfl) (by kernel_rfl) (by kernel_rfl) rfl ⟨by decide, rfl⟩ (by first | exact Yld.pure rfl nrmQ | exact Yld.rem rfl rfl rfl rfl (by omega) (by omega) | exact Yld.quo rfl rfl rfl rfl (by omega) (by omega) nrmQ | exact Yld.eqlB rfl rfl rfl rfl | exact Yld.neqB rfl rfl rfl rfl | exact Yld.eqlA 4 rfl rfl rfl (by kernel_rfl) (by kernel_rfl) rfl rfl | exact Yld.neqA 4 rfl rfl rfl (by kernel_rfl) (by kernel_rfl) rfl rfl | exact Yld.quoT rfl rfl rfl rfl (by omega) nrmQ) ?_
    refine WA.take (idx := [1, 2]) 4 rfl (by kernel_rfl) (by kernel_rfl) (by kernel_rfl) rfl ⟨by decide, rfl⟩ (Yld.sliceHi (h := q) rfl rfl rfl rfl rfl (by omega) (by omega)) ?_
    refine WA.take (idx := [1, 2]) 6 rfl (by kernel_rfl) (by kernel_rfl) (by kernel_rfl) rfl ⟨by decide, rfl⟩ (Yld.pure rfl nrmQ) ?_
    refine WA.take (idx := [1, 2]) 7 rfl (by kernel_rfl) (by kernel_rfl) (by kernel_rfl) rfl ⟨by decide, rfl⟩ (Yld.pure rfl nrmQ) ?_
    refine WA.take (idx := [1, 2]) 8 rfl (by kernel_rfl) (by kernel_rfl) (by kernel_rfl) rfl ⟨by decide, rfl⟩ (by first | exact Yld.pure rfl nrmQ | exact Yld.rem rfl rfl rfl rfl (by omega) (by omega) | exact Yld.quo rfl rfl rfl rfl (by omega) (by omega) nrmQ | exact Yld.eqlB rfl rfl rfl rfl | exact Yld.neqB rfl rfl rfl rfl | exact Yld.eqlA 4 rfl rfl rfl (by kernel_rfl) (by kernel_rfl) rfl rfl | exact Yld.neqA 4 rfl rfl rfl (by kernel_rfl) (by kernel_rfl) rfl rfl | exact Yld.quoT rfl rfl rfl rfl (by omega) nrmQ) ?_
    refine WA.take (idx := [1, 2]) 9 rfl (by kernel_rfl) (by kernel_rfl) (by kernel_rfl) rfl ⟨by decide, rfl⟩ (by first | exact Yld.indexS i rfl rfl rfl rfl rfl rfl (by omega) | exact Yld.indexS q rfl rfl rfl rfl rfl (by omega) (by omega) | exact Yld.indexS 0 rfl rfl rfl rfl rfl rfl (by omega) | exact Yld.indexS 1 rfl rfl rfl rfl rfl rfl (by omega) | exact Yld.indexS 2 rfl rfl rfl rfl rfl rfl (by omega) | exact Yld.indexS _ rfl rfl rfl rfl rfl rfl (by omega) | exact Yld.indexA 0 rfl rfl rfl rfl rfl rfl (by omega) | exact Yld.indexA 1 rfl rfl rfl rfl rfl rfl (by omega) | exact Yld.indexA _ rfl rfl rfl rfl rfl rfl (by omega)) ?_
    refine WA.take (idx := [1, 2]) 10 rfl (by kernel_rfl) (by kernel_rfl) (by kernel_rfl) rfl ⟨by decide, rfl⟩ (by first | exact Yld.indexS i rfl rfl rfl rfl rfl rfl (by omega) | exact Yld.indexS q rfl rfl rfl rfl rfl (by omega) (by omega) | exact Yld.indexS 0 rfl rfl rfl rfl rfl rfl (by omega) | exact Yld.indexS 1 rfl rfl rfl rfl rfl rfl (by omega) | exact Yld.indexS 2 rfl rfl rfl rfl rfl rfl (by omega) | exact Yld.indexS _ rfl rfl rfl rfl rfl rfl (by omega) | exact Yld.indexA 0 rfl rfl rfl rfl rfl rfl (by omega) | exact Yld.indexA 1 rfl rfl rfl rfl rfl rfl (by omega) | exact Yld.indexA _ rfl rfl rfl rfl rfl rfl (by omega)) ?_
    refine WA.take (idx := [1, 2]) 11 rfl (by kernel_rfl) (by kernel_rfl) (by kernel_rfl) rfl ⟨by decide, rfl⟩ (by first | exact Yld.load rfl rfl rfl rfl (CellAt.vwE 0 rfl (pc_get0 hp) (by omega)) | exact Yld.load rfl rfl rfl rfl (CellAt.rowE 1 rfl (ic_get hxi) (by omega)) | exact Yld.load rfl rfl rfl rfl cellQ | exact Yld.loadAgg rfl rfl rfl rfl rfl aggQ) ?_
    refine WA.take (idx := [1, 2]) 12 rfl (by kernel_rfl) (by kernel_rfl) (by kernel_rfl) rfl ⟨by decide, rfl⟩ (Yld.pure rfl nrmQ) ?_
    refine WA.take (idx := [1, 2]) 13 rfl (by kernel_rfl) (by kernel_rfl) (by kernel_rfl) rfl ⟨by decide, rfl⟩ (Yld.pure rfl nrmQ) ?_
    refine WA.take (idx := [1, 2]) 14 rfl (by kernel_rfl) (by kernel_rfl) (by kernel_rfl) rfl ⟨by decide, rfl⟩ (by first | exact Yld.indexS i rfl rfl rfl rfl rfl rfl (by omega) | exact Yld.indexS q rfl rfl rfl rfl rfl (by omega) (by omega) | exact Yld.indexS 0 rfl rfl rfl rfl rfl rfl (by omega) | exact Yld.indexS 1 rfl rfl rfl rfl rfl rfl (by omega) | exact Yld.indexS 2 rfl rfl rfl rfl rfl rfl (by omega) | exact Yld.indexS _ rfl rfl rfl rfl rfl rfl (by omega) | exact Yld.indexA 0 rfl rfl rfl rfl rfl rfl (by omega) | exact Yld.indexA 1 rfl rfl rfl rfl rfl rfl (by omega) | exact Yld.indexA _ rfl rfl rfl rfl rfl rfl (by omega)) ?_
    refine WA.take (idx := [1, 2]) 15 rfl (by kernel_rfl) (by kernel_rfl) (by kernel_rfl) rfl ⟨by decide, rfl⟩ (by first | exact Yld.load rfl rfl rfl rfl (CellAt.vwE 0 rfl (pc_get0 hp) (by omega)) | exact Yld.load rfl rfl rfl rfl (CellAt.rowE 1 rfl (ic_get hxi) (by omega)) | exact Yld.load rfl rfl rfl rfl cellQ | exact Yld.loadAgg rfl rfl rfl rfl rfl aggQ) ?_
    refine WA.take (idx := [1, 2]) 16 rfl (by kernel_rfl) (by kernel_rfl) (by kernel_rfl) rfl ⟨by decide, rfl⟩ (Yld.build rfl rfl rfl) ?_
    refine WA.two 0 17 (by kernel_rfl) rfl rfl rfl rfl ?_ ?_
    · refine StepTo.buildNone rfl rfl rfl rfl rfl (fun _ => ⟨⟨[2, 3], by decide, rfl⟩, ?_⟩)
      refine WA.two 5 17 (by kernel_rfl) rfl rfl rfl rfl ?_ ?_
      · refine StepTo.appendVw (k := 2) (by_ := 16) 0 1 rfl rfl rfl rfl rfl rfl rfl (okA_row _ _) rfl rfl rfl rfl rfl hlP (flat_one (pc_one .i64) _) (by omega) (by omega) (fun _ _ => ⟨_, setQ, ⟨[2, 3], by decide, rfl⟩, ?_⟩)
        refine WA.one 17 (by kernel_rfl) rfl rfl ?_
        refine StepTo.buildSlice rfl rfl rfl rfl rfl rfl rfl rfl rfl rfl cellsOfQ (fun _ => ⟨⟨[3, 4], by decide, rfl⟩, ?_⟩)
        refine WA.one 18 (by kernel_rfl) rfl rfl ?_
        refine StepTo.appendTo 1 (flat (pc .i64) (out.take q ++ [(p.1, x)])) rfl rfl rfl rfl rfl rfl rfl rfl rfl rfl rfl rfl (CellsAt.boxAll 0 rfl) rfl rfl (by omega) hadd (fun _ _ => ⟨_, setQ, ⟨[3, 4], by decide, rfl⟩, ?_⟩)
        refine WA.take (idx := [3, 4]) 19 rfl (by kernel_rfl) (by kernel_rfl) (by kernel_rfl) rfl ⟨by decide, rfl⟩ (Yld.pure rfl nrmQ) ?_
        refine WA.done (by kernel_rfl) ?_
        exact WQ.thenN (WQ.met _ _ [1, 4] (by repeat (first | exact Sub.nil | refine Sub.cons rfl ?_ | refine Sub.consE rfl (int_eq (by omega)) ?_)) ⟨by decide, rfl⟩ ⟨_, _, _, by omega, rfl, rfl⟩)
      · refine StepTo.buildSlice rfl rfl rfl rfl rfl rfl rfl rfl rfl rfl cellsOfQ (fun _ => ⟨⟨[3, 4], by decide, rfl⟩, ?_⟩)
        refine WA.one 5 (by kernel_rfl) rfl rfl ?_
        refine StepTo.appendVw (k := 2) (by_ := 16) 1 2 rfl rfl rfl rfl rfl rfl rfl (okA_row _ _) rfl rfl rfl rfl rfl hlP (flat_one (pc_one .i64) _) (by omega) (by omega) (fun _ _ => ⟨_, setQ, ⟨[3, 4], by decide, rfl⟩, ?_⟩)
        refine WA.one 18 (by kernel_rfl) rfl rfl ?_
        refine StepTo.appendTo 1 (flat (pc .i64) (out.take q ++ [(p.1, x)])) rfl rfl rfl rfl rfl rfl rfl rfl rfl rfl rfl rfl (CellsAt.boxAll 0 rfl) rfl rfl (by omega) hadd (fun _ _ => ⟨_, setQ, ⟨[3, 4], by decide, rfl⟩, ?_⟩)
        refine WA.take (idx := [3, 4]) 19 rfl (by kernel_rfl) (by kernel_rfl) (by kernel_rfl) rfl ⟨by decide, rfl⟩ (Yld.pure rfl nrmQ) ?_
        refine WA.done (by kernel_rfl) ?_
        exact WQ.thenN (WQ.met _ _ [1, 4] (by repeat (first | exact Sub.nil | refine Sub.cons rfl ?_ | refine Sub.consE rfl (int_eq (by omega)) ?_)) ⟨by decide, rfl⟩ ⟨_, _, _, by omega, rfl, rfl⟩)
    · refine StepTo.buildSlice rfl rfl rfl rfl rfl rfl rfl rfl rfl rfl cellsOfQ (fun _ => ⟨⟨[2, 3], by decide, rfl⟩, ?_⟩)
      refine WA.one 0 (by kernel_rfl) rfl rfl ?_
      refine StepTo.buildNone rfl rfl rfl rfl rfl (fun _ => ⟨⟨[3, 4], by decide, rfl⟩, ?_⟩)
      refine WA.one 5 (by kernel_rfl) rfl rfl ?_
      refine StepTo.appendVw (k := 2) (by_ := 16) 0 2 rfl rfl rfl rfl rfl rfl rfl (okA_row _ _) rfl rfl rfl rfl rfl hlP (flat_one (pc_one .i64) _) (by omega) (by omega) (fun _ _ => ⟨_, setQ, ⟨[3, 4], by decide, rfl⟩, ?_⟩)
      refine WA.one 18 (by kernel_rfl) rfl rfl ?_
      refine StepTo.appendTo 0 (flat (pc .i64) (out.take q ++ [(p.1, x)])) rfl rfl rfl rfl rfl rfl rfl rfl rfl rfl rfl rfl (CellsAt.boxAll 1 rfl) rfl rfl (by omega) hadd (fun _ _ => ⟨_, setQ, ⟨[3, 4], by decide, rfl⟩, ?_⟩)
      refine WA.take (idx := [3, 4]) 19 rfl (by kernel_rfl) (by kernel_rfl) (by kernel_rfl) rfl ⟨by decide, rfl⟩ (Yld.pure rfl nrmQ) ?_
      refine WA.done (by kernel_rfl) ?_
      exact WQ.thenN (WQ.met _ _ [0, 4] (by repeat (first | exact Sub.nil | refine Sub.cons rfl ?_ | refine Sub.consE rfl (int_eq (by omega)) ?_)) ⟨by decide, rfl⟩ ⟨_, _, _, by omega, rfl, rfl⟩)
    rintro τ H ⟨m2, A2, c2, hm2, rfl, rfl⟩
    repeat' (first
    | with_reducible refine WL.nil ?_
    | with_reducible refine WQ.thenN ?_
    | with_reducible refine WQ.code ?_
    | with_reducible refine WC.seq ?_
    | with_reducible refine WC.region ?_
    | ((with_reducible refine WL.isN_move ?_); first | refine WL.yld rfl (Yld.pure rfl nrmQ) ?_)
    | ((with_reducible refine WL.isN_assign ?_); first | refine WL.yld rfl (Yld.pure rfl nrmQ) ?_)
    | ((with_reducible refine WL.isN_bin ?_); first | refine WL.yld rfl (Yld.pure rfl nrmQ) ?_ | refine WL.yld rfl (Yld.rem rfl rfl rfl rfl (by omega) (by omega)) ?_ | refine WL.yld rfl (Yld.quo rfl rfl rfl rfl (by omega) (by omega) nrmQ) ?_ | refine WL.yld rfl (Yld.eqlB rfl rfl rfl rfl) ?_ | refine WL.yld rfl (Yld.neqB rfl rfl rfl rfl) ?_ | refine WL.yld rfl (Yld.eqlA 4 rfl rfl rfl (by kernel_rfl) (by kernel_rfl) rfl rfl) ?_ | refine WL.yld rfl (Yld.neqA 4 rfl rfl rfl (by kernel_rfl) (by kernel_rfl) rfl rfl) ?_ | refine WL.yld rfl (Yld.quoT rfl rfl rfl rfl (by omega) nrmQ) ?_)
    | ((with_reducible refine WL.isN_load ?_); first | refine WL.yld rfl (Yld.load rfl rfl rfl rfl cellQ) ?_ | refine WL.yld rfl (Yld.loadAgg rfl rfl rfl rfl rfl aggQ) ?_)
    | ((with_reducible refine WL.isN_iaddr ?_); first | refine WL.yld rfl (Yld.indexS 0 rfl rfl rfl rfl rfl rfl (by omega)) ?_ | refine WL.yld rfl (Yld.indexS 1 rfl rfl rfl rfl rfl rfl (by omega)) ?_ | refine WL.yld rfl (Yld.indexS 2 rfl rfl rfl rfl rfl rfl (by omega)) ?_ | refine WL.yld rfl (Yld.indexS _ rfl rfl rfl rfl rfl rfl (by omega)) ?_ | refine WL.yld rfl (Yld.indexA 0 rfl rfl rfl rfl rfl rfl (by omega)) ?_ | refine WL.yld rfl (Yld.indexA 1 rfl rfl rfl rfl rfl rfl (by omega)) ?_ | refine WL.yld rfl (Yld.indexA _ rfl rfl rfl rfl rfl rfl (by omega)) ?_)
    | ((with_reducible refine WL.isN_build ?_); first | refine WL.yld rfl (Yld.build rfl rfl rfl) ?_)
    | ((with_reducible refine WL.isN_pick ?_); first | refine WL.yld rfl (Yld.pickT rfl rfl rfl) ?_ | refine WL.yld rfl (Yld.pickF rfl rfl rfl) ?_ | refine WL.yld rfl (Yld.pickTh rfl rfl gdQ rfl) ?_ | refine WL.yld rfl (Yld.pickFh rfl rfl gdQ rfl) ?_ | refine WL.yld rfl (Yld.pickB rfl rfl rfl rfl) ?_)
    | ((with_reducible refine WL.isN_call ?_); first | refine WL.yld rfl (Yld.lenSlice rfl rfl rfl) ?_ | refine WL.yld rfl (Yld.lenStr rfl rfl rfl) ?_ | refine WL.step rfl (StepTo.append 0 rfl rfl rfl rfl rfl rfl rfl rfl rfl rfl rfl rfl (by first | exact CellsAt.boxAll 0 rfl | exact CellsAt.boxAll 1 rfl | exact CellsAt.boxAll 2 rfl | exact CellsAt.boxAll 3 rfl | exact CellsAt.boxAll 4 rfl) rfl rfl (by omega) (fun _ _ => ⟨_, setQ, ?_⟩)) | refine WL.step rfl (StepTo.append 1 rfl rfl rfl rfl rfl rfl rfl rfl rfl rfl rfl rfl (by first | exact CellsAt.boxAll 0 rfl | exact CellsAt.boxAll 1 rfl | exact CellsAt.boxAll 2 rfl | exact CellsAt.boxAll 3 rfl | exact CellsAt.boxAll 4 rfl) rfl rfl (by omega) (fun _ _ => ⟨_, setQ, ?_⟩)) | refine WL.step rfl (StepTo.append 2 rfl rfl rfl rfl rfl rfl rfl rfl rfl rfl rfl rfl (by first | exact CellsAt.boxAll 0 rfl | exact CellsAt.boxAll 1 rfl | exact CellsAt.boxAll 2 rfl | exact CellsAt.boxAll 3 rfl | exact CellsAt.boxAll 4 rfl) rfl rfl (by omega) (fun _ _ => ⟨_, setQ, ?_⟩)) | refine WL.step rfl (StepTo.append 3 rfl rfl rfl rfl rfl rfl rfl rfl rfl rfl rfl rfl (by first | exact CellsAt.boxAll 0 rfl | exact CellsAt.boxAll 1 rfl | exact CellsAt.boxAll 2 rfl | exact CellsAt.boxAll 3 rfl | exact CellsAt.boxAll 4 rfl) rfl rfl (by omega) (fun _ _ => ⟨_, setQ, ?_⟩)) | refine WL.step rfl (StepTo.append 4 rfl rfl rfl rfl rfl rfl rfl rfl rfl rfl rfl rfl (by first | exact CellsAt.boxAll 0 rfl | exact CellsAt.boxAll 1 rfl | exact CellsAt.boxAll 2 rfl | exact CellsAt.boxAll 3 rfl | exact CellsAt.boxAll 4 rfl) rfl rfl (by omega) (fun _ _ => ⟨_, setQ, ?_⟩)) | refine WL.step rfl (StepTo.append 5 rfl rfl rfl rfl rfl rfl rfl rfl rfl rfl rfl rfl (by first | exact CellsAt.boxAll 0 rfl | exact CellsAt.boxAll 1 rfl | exact CellsAt.boxAll 2 rfl | exact CellsAt.boxAll 3 rfl | exact CellsAt.boxAll 4 rfl) rfl rfl (by omega) (fun _ _ => ⟨_, setQ, ?_⟩)) | refine WL.step rfl (StepTo.append 6 rfl rfl rfl rfl rfl rfl rfl rfl rfl rfl rfl rfl (by first | exact CellsAt.boxAll 0 rfl | exact CellsAt.boxAll 1 rfl | exact CellsAt.boxAll 2 rfl | exact CellsAt.boxAll 3 rfl | exact CellsAt.boxAll 4 rfl) rfl rfl (by omega) (fun _ _ => ⟨_, setQ, ?_⟩)))
    | ((with_reducible refine WL.isT ?_); first | refine WL.skipT rfl rfl rfl rfl gdQ ?_ | refine WL.skipU rfl rfl rfl rfl ?_ | refine WL.runT rfl rfl rfl gdQ ?_)
    | ((with_reducible refine WL.isF ?_); first | refine WL.skipF rfl rfl rfl rfl gdQ ?_ | refine WL.skipU rfl rfl rfl rfl ?_ | refine WL.runF rfl rfl rfl gdQ ?_)
    | ((with_reducible refine WL.isN_bslice ?_); first | refine WL.step rfl (StepTo.buildSlice rfl rfl rfl rfl rfl rfl rfl rfl rfl rfl cellsOfQ (fun _ => ?_)))
    | with_reducible refine WC.block ?_
    | with_reducible refine WC.scope ?_
    | with_reducible refine WC.label ?_
    | with_reducible refine WQ.ngN ?_
    | with_reducible refine WQ.ngR ?_
    | with_reducible refine WQ.ngX ?_
    | with_reducible refine WC.skip ?_
    | with_reducible refine WC.ret ?_
    | with_reducible refine WC.exit ?_
    | with_reducible refine WQ.thenR ?_
    | with_reducible refine WQ.thenX ?_
    | with_reducible refine WQ.blkN ?_
    | with_reducible refine WQ.blkR ?_
    | ((with_reducible refine WQ.blkX ?_ ?_); focus rfl)
    | ((with_reducible refine WQ.blkY ?_ ?_); focus rfl)
    | refine WC.condT rfl ?_
    | refine WC.condF rfl ?_
    | refine WC.condTh rfl gdQ ?_
    | refine WC.condFh rfl gdQ ?_
    | (refine WC.cond rfl (fun hc => ?_) (fun hc => ?_) <;> (try first | (with_reducible replace hc := of_decide_eq_true hc) | (with_reducible replace hc := of_decide_eq_false hc) | (with_reducible replace hc := eqT hc) | (with_reducible replace hc := eqF hc) | (with_reducible replace hc := neT hc) | (with_reducible replace hc := neF hc) | (with_reducible replace hc := noT hc) | (with_reducible replace hc := noF hc)) <;> (try (exfalso; omega))))
    rw [← hr]
    exact WQ.rnd (k7 - (i + 1)) _ _ [0, 1] (by repeat (first | exact Sub.nil | refine Sub.cons rfl ?_ | refine Sub.consE rfl (int_eq (by omega)) ?_)) ⟨by decide, rfl⟩ (by omega) ⟨i + 1, m2, _, _, by omega, rfl, by rw [hr, List.length_append, List.length_take]; simp; omega, rfl, rfl⟩
  · rw [if_neg hx1] at hr
    have hg := beqF (fun e => hx1 (hiff.2 e))
    have hadd : flat (pc .i64) out ++ [.int .i64 x, .int .i64 x] = flat (pc .i64) (out ++ [(x, x)]) := by rw [flat_append]; rfl
    repeat' (first
    | with_reducible refine WL.nil ?_
    | with_reducible refine WQ.thenN ?_
    | with_reducible refine WQ.code ?_
    | with_reducible refine WC.seq ?_
    | with_reducible refine WC.region ?_
    | ((with_reducible refine WL.isN_move ?_); first | refine WL.yld rfl (Yld.pure rfl nrmQ) ?_)
    | ((with_reducible refine WK.isN_move ?_); first | refine WK.yld rfl (Yld.pure rfl nrmQ) ?_)
    | ((with_reducible refine WL.isN_assign ?_); first | refine WL.yld rfl (Yld.pure rfl nrmQ) ?_)
    | ((with_reducible refine WK.isN_assign ?_); first | refine WK.yld rfl (Yld.pure rfl nrmQ) ?_)
    | ((with_reducible refine WL.isN_bin ?_); first | refine WL.yld rfl (Yld.pure rfl nrmQ) ?_ | refine WL.yld rfl (Yld.rem rfl rfl rfl rfl (by omega) (by omega)) ?_ | refine WL.yld rfl (Yld.quo rfl rfl rfl rfl (by omega) (by omega) nrmQ) ?_ | refine WL.yld rfl (Yld.eqlB rfl rfl rfl rfl) ?_ | refine WL.yld rfl (Yld.neqB rfl rfl rfl rfl) ?_ | refine WL.yld rfl (Yld.eqlA 4 rfl rfl rfl (by kernel_rfl) (by kernel_rfl) rfl rfl) ?_ | refine WL.yld rfl (Yld.neqA 4 rfl rfl rfl (by kernel_rfl) (by kernel_rfl) rfl rfl) ?_ | refine WL.yld rfl (Yld.quoT rfl rfl rfl rfl (by omega) nrmQ) ?_)
    | ((with_reducible refine WK.isN_bin ?_); first | refine WK.yld rfl (Yld.pure rfl nrmQ) ?_ | refine WK.yld rfl (Yld.rem rfl rfl rfl rfl (by omega) (by omega)) ?_ | refine WK.yld rfl (Yld.quo rfl rfl rfl rfl (by omega) (by omega) nrmQ) ?_ | refine WK.yld rfl (Yld.eqlB rfl rfl rfl rfl) ?_ | refine WK.yld rfl (Yld.neqB rfl rfl rfl rfl) ?_ | refine WK.yld rfl (Yld.eqlA 4 rfl rfl rfl (by kernel_rfl) (by kernel_rfl) rfl rfl) ?_ | refine WK.yld rfl (Yld.neqA 4 rfl rfl rfl (by kernel_rfl) (by kernel_rfl) rfl rfl) ?_ | refine WK.yld rfl (Yld.quoT rfl rfl rfl rfl (by omega) nrmQ) ?_)
    | ((with_reducible refine WL.isN_load ?_); first | refine WL.yld rfl (Yld.load rfl rfl rfl rfl (CellAt.rowE 1 rfl (ic_get hxi) (by omega))) ?_ | refine WL.yld rfl (Yld.load rfl rfl rfl rfl (CellAt.rowE 0 rfl (pc_get1 hp) (by omega))) ?_ | refine WL.yld rfl (Yld.load rfl rfl rfl rfl cellQ) ?_ | refine WL.yld rfl (Yld.loadAgg rfl rfl rfl rfl rfl aggQ) ?_)
    | ((with_reducible refine WK.isN_load ?_); first | refine WK.yld rfl (Yld.load rfl rfl rfl rfl (CellAt.rowE 1 rfl (ic_get hxi) (by omega))) ?_ | refine WK.yld rfl (Yld.load rfl rfl rfl rfl (CellAt.rowE 0 rfl (pc_get1 hp) (by omega))) ?_ | refine WK.yld rfl (Yld.load rfl rfl rfl rfl cellQ) ?_ | refine WK.yld rfl (Yld.loadAgg rfl rfl rfl rfl rfl aggQ) ?_)
    | ((with_reducible refine WL.isN_iaddr ?_); first | refine WL.yld rfl (Yld.indexS i rfl rfl rfl rfl rfl rfl (by omega)) ?_ | refine WL.yld rfl (Yld.indexS q rfl rfl rfl rfl rfl (by omega) (by omega)) ?_ | refine WL.yld rfl (Yld.indexS 0 rfl rfl rfl rfl rfl rfl (by omega)) ?_ | refine WL.yld rfl (Yld.indexS 1 rfl rfl rfl rfl rfl rfl (by omega)) ?_ | refine WL.yld rfl (Yld.indexS 2 rfl rfl rfl rfl rfl rfl (by omega)) ?_ | refine WL.yld rfl (Yld.indexS _ rfl rfl rfl rfl rfl rfl (by omega)) ?_ | refine WL.yld rfl (Yld.indexA 0 rfl rfl rfl rfl rfl rfl (by omega)) ?_ | refine WL.yld rfl (Yld.indexA 1 rfl rfl rfl rfl rfl rfl (by omega)) ?_ | refine WL.yld rfl (Yld.indexA _ rfl rfl rfl rfl rfl rfl (by omega)) ?_)
    | ((with_reducible refine WK.isN_iaddr ?_); first | refine WK.yld rfl (Yld.indexS i rfl rfl rfl rfl rfl rfl (by omega)) ?_ | refine WK.yld rfl (Yld.indexS q rfl rfl rfl rfl rfl (by omega) (by omega)) ?_ | refine WK.yld rfl (Yld.indexS 0 rfl rfl rfl rfl rfl rfl (by omega)) ?_ | refine WK.yld rfl (Yld.indexS 1 rfl rfl rfl rfl rfl rfl (by omega)) ?_ | refine WK.yld rfl (Yld.indexS 2 rfl rfl rfl rfl rfl rfl (by omega)) ?_ | refine WK.yld rfl (Yld.indexS _ rfl rfl rfl rfl rfl rfl (by omega)) ?_ | refine WK.yld rfl (Yld.indexA 0 rfl rfl rfl rfl rfl rfl (by omega)) ?_ | refine WK.yld rfl (Yld.indexA 1 rfl rfl rfl rfl rfl rfl (by omega)) ?_ | refine WK.yld rfl (Yld.indexA _ rfl rfl rfl rfl rfl rfl (by omega)) ?_)
    | ((with_reducible refine WL.isN_build ?_); first | refine WL.yld rfl (Yld.build rfl rfl rfl) ?_)
    | ((with_reducible refine WK.isN_build ?_); first | refine WK.yld rfl (Yld.build rfl rfl rfl) ?_)
    | ((with_reducible refine WL.isN_pick ?_); first | refine WL.yld rfl (Yld.pickT rfl rfl rfl) ?_ | refine WL.yld rfl (Yld.pickF rfl rfl rfl) ?_ | refine WL.yld rfl (Yld.pickTh rfl rfl gdQ rfl) ?_ | refine WL.yld rfl (Yld.pickFh rfl rfl gdQ rfl) ?_ | refine WL.yld rfl (Yld.pickB rfl rfl rfl rfl) ?_)
    | ((with_reducible refine WK.isN_pick ?_); first | refine WK.yld rfl (Yld.pickT rfl rfl rfl) ?_ | refine WK.yld rfl (Yld.pickF rfl rfl rfl) ?_ | refine WK.yld rfl (Yld.pickTh rfl rfl gdQ rfl) ?_ | refine WK.yld rfl (Yld.pickFh rfl rfl gdQ rfl) ?_ | refine WK.yld rfl (Yld.pickB rfl rfl rfl rfl) ?_)
    | ((with_reducible refine WL.isN_call ?_); first | refine WK.step rfl (Qui.call (v := .int .i64 (kf fr x)) (us := [.int .i64 x, .int .i64 fr, .int .i64 4294967296]) rfl rfl rfl (by kernel_rfl) (fun w _ => rabove_q x fr w hxr hfr)) ?_ | refine WK.step rfl (Qui.call (v := .int .i64 (kf fr p.2)) (us := [.int .i64 p.2, .int .i64 fr, .int .i64 4294967296]) rfl rfl rfl (by kernel_rfl) (fun w _ => rabove_q p.2 fr w hpm.2.1 hfr)) ?_ | refine WL.yld rfl (Yld.lenSlice rfl rfl rfl) ?_ | refine WL.yld rfl (Yld.lenStr rfl rfl rfl) ?_ | refine WL.step rfl (StepTo.append 0 rfl rfl rfl rfl rfl rfl rfl rfl rfl rfl rfl rfl (by first | exact CellsAt.boxAll 0 rfl | exact CellsAt.boxAll 1 rfl | exact CellsAt.boxAll 2 rfl | exact CellsAt.boxAll 3 rfl | exact CellsAt.boxAll 4 rfl) rfl rfl (by omega) (fun _ _ => ⟨_, setQ, ?_⟩)) | refine WL.step rfl (StepTo.append 1 rfl rfl rfl rfl rfl rfl rfl rfl rfl rfl rfl rfl (by first | exact CellsAt.boxAll 0 rfl | exact CellsAt.boxAll 1 rfl | exact CellsAt.boxAll 2 rfl | exact CellsAt.boxAll 3 rfl | exact CellsAt.boxAll 4 rfl) rfl rfl (by omega) (fun _ _ => ⟨_, setQ, ?_⟩)) | refine WL.step rfl (StepTo.append 2 rfl rfl rfl rfl rfl rfl rfl rfl rfl rfl rfl rfl (by first | exact CellsAt.boxAll 0 rfl | exact CellsAt.boxAll 1 rfl | exact CellsAt.boxAll 2 rfl | exact CellsAt.boxAll 3 rfl | exact CellsAt.boxAll 4 rfl) rfl rfl (by omega) (fun _ _ => ⟨_, setQ, ?_⟩)) | refine WL.step rfl (StepTo.append 3 rfl rfl rfl rfl rfl rfl rfl rfl rfl rfl rfl rfl (by first | exact CellsAt.boxAll 0 rfl | exact CellsAt.boxAll 1 rfl | exact CellsAt.boxAll 2 rfl | exact CellsAt.boxAll 3 rfl | exact CellsAt.boxAll 4 rfl) rfl rfl (by omega) (fun _ _ => ⟨_, setQ, ?_⟩)) | refine WL.step rfl (StepTo.append 4 rfl rfl rfl rfl rfl rfl rfl rfl rfl rfl rfl rfl (by first | exact CellsAt.boxAll 0 rfl | exact CellsAt.boxAll 1 rfl | exact CellsAt.boxAll 2 rfl | exact CellsAt.boxAll 3 rfl | exact CellsAt.boxAll 4 rfl) rfl rfl (by omega) (fun _ _ => ⟨_, setQ, ?_⟩)) | refine WL.step rfl (StepTo.append 5 rfl rfl rfl rfl rfl rfl rfl rfl rfl rfl rfl rfl (by first | exact CellsAt.boxAll 0 rfl | exact CellsAt.boxAll 1 rfl | exact CellsAt.boxAll 2 rfl | exact CellsAt.boxAll 3 rfl | exact CellsAt.boxAll 4 rfl) rfl rfl (by omega) (fun _ _ => ⟨_, setQ, ?_⟩)) | refine WL.step rfl (StepTo.append 6 rfl rfl rfl rfl rfl rfl rfl rfl rfl rfl rfl rfl (by first | exact CellsAt.boxAll 0 rfl | exact CellsAt.boxAll 1 rfl | exact CellsAt.boxAll 2 rfl | exact CellsAt.boxAll 3 rfl | exact CellsAt.boxAll 4 rfl) rfl rfl (by omega) (fun _ _ => ⟨_, setQ, ?_⟩)))
    | ((with_reducible refine WK.isN_call ?_); first | refine WK.step rfl (Qui.call (v := .int .i64 (kf fr x)) (us := [.int .i64 x, .int .i64 fr, .int .i64 4294967296]) rfl rfl rfl (by kernel_rfl) (fun w _ => rabove_q x fr w hxr hfr)) ?_ | refine WK.step rfl (Qui.call (v := .int .i64 (kf fr p.2)) (us := [.int .i64 p.2, .int .i64 fr, .int .i64 4294967296]) rfl rfl rfl (by kernel_rfl) (fun w _ => rabove_q p.2 fr w hpm.2.1 hfr)) ?_ | refine WK.yld rfl (Yld.lenSlice rfl rfl rfl) ?_ | refine WK.yld rfl (Yld.lenStr rfl rfl rfl) ?_)
    | ((with_reducible refine WL.isT ?_); first | refine WL.skipT rfl rfl rfl rfl gdQ ?_ | refine WL.skipU rfl rfl rfl rfl ?_ | refine WL.runT rfl rfl rfl gdQ ?_)
    | ((with_reducible refine WK.isT ?_); first | refine WK.skipT rfl rfl rfl rfl gdQ ?_ | refine WK.skipU rfl rfl rfl rfl ?_ | refine WK.runT rfl rfl rfl gdQ ?_)
    | ((with_reducible refine WL.isF ?_); first | refine WL.skipF rfl rfl rfl rfl gdQ ?_ | refine WL.skipU rfl rfl rfl rfl ?_ | refine WL.runF rfl rfl rfl gdQ ?_)
    | ((with_reducible refine WK.isF ?_); first | refine WK.skipF rfl rfl rfl rfl gdQ ?_ | refine WK.skipU rfl rfl rfl rfl ?_ | refine WK.runF rfl rfl rfl gdQ ?_)
    | ((with_reducible refine WL.isN_bslice ?_); first | refine WL.step rfl (StepTo.buildSlice rfl rfl rfl rfl rfl rfl rfl rfl rfl rfl cellsOfQ (fun _ => ?_)))
    | with_reducible refine WC.block ?_
    | with_reducible refine WC.scope ?_
    | with_reducible refine WC.label ?_
    | with_reducible refine WQ.ngN ?_
    | with_reducible refine WQ.ngR ?_
    | with_reducible refine WQ.ngX ?_
    | with_reducible refine WC.skip ?_
    | with_reducible refine WC.ret ?_
    | with_reducible refine WC.exit ?_
    | with_reducible refine WQ.thenR ?_
    | with_reducible refine WQ.thenX ?_
    | with_reducible refine WQ.blkN ?_
    | with_reducible refine WQ.blkR ?_
    | ((with_reducible refine WQ.blkX ?_ ?_); focus rfl)
    | ((with_reducible refine WQ.blkY ?_ ?_); focus rfl)
    | (refine WC.quiet (i := 7) (by kernel_rfl) (by kernel_rfl) ?_)
    | with_reducible refine WK.nil ?_
    | refine WC.condT rfl ?_
    | refine WC.condF rfl ?_
    | refine WC.condTh rfl gdQ ?_
    | refine WC.condFh rfl gdQ ?_
    | (refine WC.cond rfl (fun hc => ?_) (fun hc => ?_) <;> (try first | (with_reducible replace hc := of_decide_eq_true hc) | (with_reducible replace hc := of_decide_eq_false hc) | (with_reducible replace hc := eqT hc) | (with_reducible replace hc := eqF hc) | (with_reducible replace hc := neT hc) | (with_reducible replace hc := neF hc) | (with_reducible replace hc := noT hc) | (with_reducible replace hc := noF hc)) <;> (try (exfalso; omega))))
    refine WC.cutN (fun τ H => ∃ A2 c2, τ = [(1, .int .i64 fr), (5, .slice (some ⟨g7, 0, none⟩) k7 c7), (6, .slice A2 (q + 1 + 1) c2), (7, .int .i64 i)] ∧ H = [.row A2 (q + 1 + 1) c2 34 2 (flat (pc .i64) (out ++ [(x, x)])), .row (some ⟨g7, 0, none⟩) k7 c7 3 1 (flat (ic .i64) s)]) ?_ ?_
    refine WC.anyI [1] (by kernel_rfl) ?_
    refine WA.take (idx := [1]) 0 rfl (by kernel_rfl) (by kernel_rfl) (by kernel_rfl) rfl ⟨by decide, rfl⟩ (Yld.pure rfl nrmQ) ?_
    refine WA.take (idx := [1]) 1 rfl (by kernel_rfl) (by kernel_rfl) (by kernel_rfl) rfl ⟨by decide, rfl⟩ (Yld.pure rfl nrmQ) ?_
    refine WA.take (idx := [1]) 2 rfl (by kernel_rfl) (by kernel_rfl) (by kernel_rfl) rfl ⟨by decide, rfl⟩ (Yld.pure rfl nrmQ) ?_
    refine WA.take (idx := [1]) 3 rfl (by kernel_rfl) (by kernel_rfl) (by kernel_rfl) rfl ⟨by decide, rfl⟩ (by first | exact Yld.indexS i rfl rfl rfl rfl rfl rfl (by omega) | exact Yld.indexS 0 rfl rfl rfl rfl rfl rfl (by omega) | exact Yld.indexS 1 rfl rfl rfl rfl rfl rfl (by omega) | exact Yld.indexS 2 rfl rfl rfl rfl rfl rfl (by omega) | exact Yld.indexS _ rfl rfl rfl rfl rfl rfl (by omega) | exact Yld.indexA 0 rfl rfl rfl rfl rfl rfl (by omega) | exact Yld.indexA 1 rfl rfl rfl rfl rfl rfl (by omega) | exact Yld.indexA _ rfl rfl rfl rfl rfl rfl (by omega)) ?_
    refine WA.take (idx := [1]) 4 rfl (by kernel_rfl) (by kernel_rfl) (by kernel_rfl) rfl ⟨by decide, rfl⟩ (by first | exact Yld.load rfl rfl rfl rfl (CellAt.rowE 0 rfl (ic_get hxi) (by omega)) | exact Yld.load rfl rfl rfl rfl cellQ | exact Yld.loadAgg rfl rfl rfl rfl rfl aggQ) ?_
    refine WA.take (idx := [1]) 5 rfl (by kernel_rfl) (by kernel_rfl) (by kernel_rfl) rfl ⟨by decide, rfl⟩ (Yld.pure rfl nrmQ) ?_
    refine WA.take (idx := [1]) 6 rfl (by kernel_rfl) (by kernel_rfl) (by kernel_rfl) rfl ⟨by decide, rfl⟩ (Yld.pure rfl nrmQ) ?_
    refine WA.take (idx := [1]) 7 rfl (by kernel_rfl) (by kernel_rfl) (by kernel_rfl) rfl ⟨by decide, rfl⟩ (by first | exact Yld.indexS i rfl rfl rfl rfl rfl rfl (by omega) | exact Yld.indexS 0 rfl rfl rfl rfl rfl rfl (by omega) | exact Yld.indexS 1 rfl rfl rfl rfl rfl rfl (by omega) | exact Yld.indexS 2 rfl rfl rfl rfl rfl rfl (by omega) | exact Yld.indexS _ rfl rfl rfl rfl rfl rfl (by omega) | exact Yld.indexA 0 rfl rfl rfl rfl rfl rfl (by omega) | exact Yld.indexA 1 rfl rfl rfl rfl rfl rfl (by omega) | exact Yld.indexA _ rfl rfl rfl rfl rfl rfl (by omega)) ?_
    refine WA.take (idx := [1]) 8 rfl (by kernel_rfl) (by kernel_rfl) (by kernel_rfl) rfl ⟨by decide, rfl⟩ (by first | exact Yld.load rfl rfl rfl rfl (CellAt.rowE 0 rfl (ic_get hxi) (by omega)) | exact Yld.load rfl rfl rfl rfl cellQ | exact Yld.loadAgg rfl rfl rfl rfl rfl aggQ) ?_
    refine WA.take (idx := [1]) 9 rfl (by kernel_rfl) (by kernel_rfl) (by kernel_rfl) rfl ⟨by decide, rfl⟩ (Yld.build rfl rfl rfl) ?_
    refine WA.one 10 (by kernel_rfl) rfl rfl ?_
    refine StepTo.buildSlice rfl rfl rfl rfl rfl rfl rfl rfl rfl rfl cellsOfQ (fun _ => ⟨⟨[2], by decide, rfl⟩, ?_⟩)
    refine WA.one 11 (by kernel_rfl) rfl rfl ?_
    refine StepTo.appendTo 1 (flat (pc .i64) (out ++ [(x, x)])) rfl rfl rfl rfl rfl rfl rfl rfl rfl rfl rfl rfl (CellsAt.boxAll 0 rfl) rfl rfl (by omega) hadd (fun _ _ => ⟨_, setQ, ⟨[2], by decide, rfl⟩, ?_⟩)
    refine WA.take (idx := [2]) 12 rfl (by kernel_rfl) (by kernel_rfl) (by kernel_rfl) rfl ⟨by decide, rfl⟩ (Yld.pure rfl nrmQ) ?_
    refine WA.done (by kernel_rfl) ?_
    exact WQ.thenN (WQ.met _ _ [1, 2] (by repeat (first | exact Sub.nil | refine Sub.cons rfl ?_ | refine Sub.consE rfl (int_eq (by omega)) ?_)) ⟨by decide, rfl⟩ ⟨_, _, rfl, rfl⟩)
    rintro τ H ⟨A2, c2, rfl, rfl⟩
    repeat' (first
    | with_reducible refine WL.nil ?_
    | with_reducible refine WQ.thenN ?_
    | with_reducible refine WQ.code ?_
    | with_reducible refine WC.seq ?_
    | with_reducible refine WC.region ?_
    | ((with_reducible refine WL.isN_move ?_); first | refine WL.yld rfl (Yld.pure rfl nrmQ) ?_)
    | ((with_reducible refine WL.isN_assign ?_); first | refine WL.yld rfl (Yld.pure rfl nrmQ) ?_)
    | ((with_reducible refine WL.isN_bin ?_); first | refine WL.yld rfl (Yld.pure rfl nrmQ) ?_ | refine WL.yld rfl (Yld.rem rfl rfl rfl rfl (by omega) (by omega)) ?_ | refine WL.yld rfl (Yld.quo rfl rfl rfl rfl (by omega) (by omega) nrmQ) ?_ | refine WL.yld rfl (Yld.eqlB rfl rfl rfl rfl) ?_ | refine WL.yld rfl (Yld.neqB rfl rfl rfl rfl) ?_ | refine WL.yld rfl (Yld.eqlA 4 rfl rfl rfl (by kernel_rfl) (by kernel_rfl) rfl rfl) ?_ | refine WL.yld rfl (Yld.neqA 4 rfl rfl rfl (by kernel_rfl) (by kernel_rfl) rfl rfl) ?_ | refine WL.yld rfl (Yld.quoT rfl rfl rfl rfl (by omega) nrmQ) ?_)
    | ((with_reducible refine WL.isN_load ?_); first | refine WL.yld rfl (Yld.load rfl rfl rfl rfl cellQ) ?_ | refine WL.yld rfl (Yld.loadAgg rfl rfl rfl rfl rfl aggQ) ?_)
    | ((with_reducible refine WL.isN_iaddr ?_); first | refine WL.yld rfl (Yld.indexS 0 rfl rfl rfl rfl rfl rfl (by omega)) ?_ | refine WL.yld rfl (Yld.indexS 1 rfl rfl rfl rfl rfl rfl (by omega)) ?_ | refine WL.yld rfl (Yld.indexS 2 rfl rfl rfl rfl rfl rfl (by omega)) ?_ | refine WL.yld rfl (Yld.indexS _ rfl rfl rfl rfl rfl rfl (by omega)) ?_ | refine WL.yld rfl (Yld.indexA 0 rfl rfl rfl rfl rfl rfl (by omega)) ?_ | refine WL.yld rfl (Yld.indexA 1 rfl rfl rfl rfl rfl rfl (by omega)) ?_ | refine WL.yld rfl (Yld.indexA _ rfl rfl rfl rfl rfl rfl (by omega)) ?_)
    | ((with_reducible refine WL.isN_build ?_); first | refine WL.yld rfl (Yld.build rfl rfl rfl) ?_)
    | ((with_reducible refine WL.isN_pick ?_); first | refine WL.yld rfl (Yld.pickT rfl rfl rfl) ?_ | refine WL.yld rfl (Yld.pickF rfl rfl rfl) ?_ | refine WL.yld rfl (Yld.pickTh rfl rfl gdQ rfl) ?_ | refine WL.yld rfl (Yld.pickFh rfl rfl gdQ rfl) ?_ | refine WL.yld rfl (Yld.pickB rfl rfl rfl rfl) ?_)
    | ((with_reducible refine WL.isN_call ?_); first | refine WL.yld rfl (Yld.lenSlice rfl rfl rfl) ?_ | refine WL.yld rfl (Yld.lenStr rfl rfl rfl) ?_ | refine WL.step rfl (StepTo.append 0 rfl rfl rfl rfl rfl rfl rfl rfl rfl rfl rfl rfl (by first | exact CellsAt.boxAll 0 rfl | exact CellsAt.boxAll 1 rfl | exact CellsAt.boxAll 2 rfl | exact CellsAt.boxAll 3 rfl | exact CellsAt.boxAll 4 rfl) rfl rfl (by omega) (fun _ _ => ⟨_, setQ, ?_⟩)) | refine WL.step rfl (StepTo.append 1 rfl rfl rfl rfl rfl rfl rfl rfl rfl rfl rfl rfl (by first | exact CellsAt.boxAll 0 rfl | exact CellsAt.boxAll 1 rfl | exact CellsAt.boxAll 2 rfl | exact CellsAt.boxAll 3 rfl | exact CellsAt.boxAll 4 rfl) rfl rfl (by omega) (fun _ _ => ⟨_, setQ, ?_⟩)) | refine WL.step rfl (StepTo.append 2 rfl rfl rfl rfl rfl rfl rfl rfl rfl rfl rfl rfl (by first | exact CellsAt.boxAll 0 rfl | exact CellsAt.boxAll 1 rfl | exact CellsAt.boxAll 2 rfl | exact CellsAt.boxAll 3 rfl | exact CellsAt.boxAll 4 rfl) rfl rfl (by omega) (fun _ _ => ⟨_, setQ, ?_⟩)) | refine WL.step rfl (StepTo.append 3 rfl rfl rfl rfl rfl rfl rfl rfl rfl rfl rfl rfl (by first | exact CellsAt.boxAll 0 rfl | exact CellsAt.boxAll 1 rfl | exact CellsAt.boxAll 2 rfl | exact CellsAt.boxAll 3 rfl | exact CellsAt.boxAll 4 rfl) rfl rfl (by omega) (fun _ _ => ⟨_, setQ, ?_⟩)) | refine WL.step rfl (StepTo.append 4 rfl rfl rfl rfl rfl rfl rfl rfl rfl rfl rfl rfl (by first | exact CellsAt.boxAll 0 rfl | exact CellsAt.boxAll 1 rfl | exact CellsAt.boxAll 2 rfl | exact CellsAt.boxAll 3 rfl | exact CellsAt.boxAll 4 rfl) rfl rfl (by omega) (fun _ _ => ⟨_, setQ, ?_⟩)) | refine WL.step rfl (StepTo.append 5 rfl rfl rfl rfl rfl rfl rfl rfl rfl rfl rfl rfl (by first | exact CellsAt.boxAll 0 rfl | exact CellsAt.boxAll 1 rfl | exact CellsAt.boxAll 2 rfl | exact CellsAt.boxAll 3 rfl | exact CellsAt.boxAll 4 rfl) rfl rfl (by omega) (fun _ _ => ⟨_, setQ, ?_⟩)) | refine WL.step rfl (StepTo.append 6 rfl rfl rfl rfl rfl rfl rfl rfl rfl rfl rfl rfl (by first | exact CellsAt.boxAll 0 rfl | exact CellsAt.boxAll 1 rfl | exact CellsAt.boxAll 2 rfl | exact CellsAt.boxAll 3 rfl | exact CellsAt.boxAll 4 rfl) rfl rfl (by omega) (fun _ _ => ⟨_, setQ, ?_⟩)))
    | ((with_reducible refine WL.isT ?_); first | refine WL.skipT rfl rfl rfl rfl gdQ ?_ | refine WL.skipU rfl rfl rfl rfl ?_ | refine WL.runT rfl rfl rfl gdQ ?_)
    | ((with_reducible refine WL.isF ?_); first | refine WL.skipF rfl rfl rfl rfl gdQ ?_ | refine WL.skipU rfl rfl rfl rfl ?_ | refine WL.runF rfl rfl rfl gdQ ?_)
    | ((with_reducible refine WL.isN_bslice ?_); first | refine WL.step rfl (StepTo.buildSlice rfl rfl rfl rfl rfl rfl rfl rfl rfl rfl cellsOfQ (fun _ => ?_)))
    | with_reducible refine WC.block ?_
    | with_reducible refine WC.scope ?_
    | with_reducible refine WC.label ?_
    | with_reducible refine WQ.ngN ?_
    | with_reducible refine WQ.ngR ?_
    | with_reducible refine WQ.ngX ?_
    | with_reducible refine WC.skip ?_
    | with_reducible refine WC.ret ?_
    | with_reducible refine WC.exit ?_
    | with_reducible refine WQ.thenR ?_
    | with_reducible refine WQ.thenX ?_
    | with_reducible refine WQ.blkN ?_
    | with_reducible refine WQ.blkR ?_
    | ((with_reducible refine WQ.blkX ?_ ?_); focus rfl)
    | ((with_reducible refine WQ.blkY ?_ ?_); focus rfl)
    | refine WC.condT rfl ?_
    | refine WC.condF rfl ?_
    | refine WC.condTh rfl gdQ ?_
    | refine WC.condFh rfl gdQ ?_
    | (refine WC.cond rfl (fun hc => ?_) (fun hc => ?_) <;> (try first | (with_reducible replace hc := of_decide_eq_true hc) | (with_reducible replace hc := of_decide_eq_false hc) | (with_reducible replace hc := eqT hc) | (with_reducible replace hc := eqF hc) | (with_reducible replace hc := neT hc) | (with_reducible replace hc := neF hc) | (with_reducible replace hc := noT hc) | (with_reducible replace hc := noF hc)) <;> (try (exfalso; omega))))
    rw [← hr]
    exact WQ.rnd (k7 - (i + 1)) _ _ [0, 1] (by repeat (first | exact Sub.nil | refine Sub.cons rfl ?_ | refine Sub.consE rfl (int_eq (by omega)) ?_)) ⟨by decide, rfl⟩ (by omega) ⟨i + 1, q + 1 + 1, _, _, by omega, rfl, by rw [hr, List.length_append, ← hm]; rfl, rfl, rfl⟩
end Go.Proofs.Ytgamndfgcbapgaa
