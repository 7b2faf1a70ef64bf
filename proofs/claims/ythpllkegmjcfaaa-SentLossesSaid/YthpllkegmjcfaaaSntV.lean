/- What is given up is lost, and sent again is under way: the walk of SentLosses. -/
import Derived.Test.YthpllkegmjcfaaaSntQ
import Derived.Test.YthpllkegmjcfaaaSntO
namespace Go.Proofs.Ythpllkegmjcfaaa
open Go.RowKit
set_option linter.unusedVariables false

set_option maxHeartbeats 4000000 in
theorem sentLosses_any (cum : Int) (A : Option Addr) (n c : Nat) (ps : List Pc) (path to now : Int) (w : World) (hL : Ps w w.heap.size A n ps) (hA : okA A n) (hcap : n ≤ c) (hby : n * 56 ≤ 140737488355328) :
    Calls Try.prog 6 #[.agg #[.int .u32 cum, .slice A n c], .int .i64 path, .int .i64 to, .int .i64 now] w
      fun e w' => e = .returned (.bool true) ∧ Below w.heap.size w w' := by
  have hl := hL.len
  have hm := hL.most
  unfold maxLen at hm
  subst hl
  refine enterW (fun _ => False) _ Try.func6 rfl (by simp only [Try.ntmps6, List.length_cons, List.length_nil, Nat.reduceAdd, Nat.reduceSub]; rfl) ?_
  refine WC.addVw Pc.cs_len hL ?_
  repeat' (first
    | with_reducible refine WL.nil ?_
    | with_reducible refine WQ.thenN ?_
    | with_reducible refine WQ.code ?_
    | with_reducible refine WC.seq ?_
    | with_reducible refine WC.region ?_
    | ((with_reducible refine WL.isN_move ?_); first | refine WL.yld rfl (Yld.pure rfl nrmQ) ?_)
    | ((with_reducible refine WL.isN_assign ?_); first | refine WL.yld rfl (Yld.pure rfl nrmQ) ?_)
    | ((with_reducible refine WL.isN_bin ?_); first | refine WL.yld rfl (Yld.pure rfl nrmQ) ?_ | refine WL.yld rfl (Yld.rem rfl rfl rfl rfl (by omega) (by omega)) ?_ | refine WL.yld rfl (Yld.quo rfl rfl rfl rfl (by omega) (by omega) nrmQ) ?_ | refine WL.yld rfl (Yld.eqlB rfl rfl rfl rfl) ?_ | refine WL.yld rfl (Yld.neqB rfl rfl rfl rfl) ?_ | refine WL.yld rfl (Yld.eqlA 4 rfl rfl rfl (by kernel_rfl) (by kernel_rfl) rfl rfl) ?_ | refine WL.yld rfl (Yld.neqA 4 rfl rfl rfl (by kernel_rfl) (by kernel_rfl) rfl rfl) ?_ | refine WL.yld rfl (Yld.quoT rfl rfl rfl rfl (by omega) nrmQ) ?_)
    | ((with_reducible refine WL.isN_un ?_); first | refine WL.yld rfl (Yld.pure rfl nrmQ) ?_)
    | ((with_reducible refine WL.isN_extract ?_); first | refine WL.yld rfl (Yld.pure rfl nrmQ) ?_)
    | ((with_reducible refine WL.isN_load ?_); first | refine WL.yld rfl (Yld.load rfl rfl rfl rfl cellQ) ?_ | refine WL.yld rfl (Yld.loadAgg rfl rfl rfl rfl rfl aggQ) ?_)
    | ((with_reducible refine WL.isN_iaddr ?_); first | refine WL.yld rfl (Yld.indexS 0 rfl rfl rfl rfl rfl rfl (by omega)) ?_ | refine WL.yld rfl (Yld.indexS 1 rfl rfl rfl rfl rfl rfl (by omega)) ?_ | refine WL.yld rfl (Yld.indexS 2 rfl rfl rfl rfl rfl rfl (by omega)) ?_ | refine WL.yld rfl (Yld.indexS _ rfl rfl rfl rfl rfl rfl (by omega)) ?_ | refine WL.yld rfl (Yld.indexA 0 rfl rfl rfl rfl rfl rfl (by omega)) ?_ | refine WL.yld rfl (Yld.indexA 1 rfl rfl rfl rfl rfl rfl (by omega)) ?_ | refine WL.yld rfl (Yld.indexA _ rfl rfl rfl rfl rfl rfl (by omega)) ?_)
    | ((with_reducible refine WL.isN_pick ?_); first | refine WL.yld rfl (Yld.pickT rfl rfl rfl) ?_ | refine WL.yld rfl (Yld.pickF rfl rfl rfl) ?_ | refine WL.yld rfl (Yld.pickTh rfl rfl gdQ rfl) ?_ | refine WL.yld rfl (Yld.pickFh rfl rfl gdQ rfl) ?_ | refine WL.yld rfl (Yld.pickB rfl rfl rfl rfl) ?_)
    | ((with_reducible refine WL.isN_call ?_); first | refine WL.step rfl (StepTo.callV (v := .bool true) (us := []) rfl rfl rfl rfl rfl (by kernel_rfl) (fun w _ => sshown_any w) ?_) | refine WL.step rfl (StepTo.callN [] (us := [.agg #[.int .u32 cum, .slice A ps.length c]]) rfl rfl rfl rfl rfl (by kernel_rfl) (fun w hw => as_w cum A ps.length c ps w (hw.lst 1 Pc.cs_len (by omega) rfl) hby) ?_) | refine WL.yld rfl (Yld.lenSlice rfl rfl rfl) ?_ | refine WL.yld rfl (Yld.lenStr rfl rfl rfl) ?_)
    | ((with_reducible refine WL.isT ?_); first | refine WL.skipT rfl rfl rfl rfl gdQ ?_ | refine WL.skipU rfl rfl rfl rfl ?_ | refine WL.runT rfl rfl rfl gdQ ?_ | (refine WL.cases rfl rfl rfl (fun hg => ?_) (fun hg => ?_) <;> (try first | (with_reducible replace hg := of_decide_eq_true hg) | (with_reducible replace hg := of_decide_eq_false hg) | (with_reducible replace hg := eqT hg) | (with_reducible replace hg := eqF hg) | (with_reducible replace hg := neT hg) | (with_reducible replace hg := neF hg) | (with_reducible replace hg := noT hg) | (with_reducible replace hg := noF hg)) <;> (try (exfalso; omega))))
    | ((with_reducible refine WL.isF ?_); first | refine WL.skipF rfl rfl rfl rfl gdQ ?_ | refine WL.skipU rfl rfl rfl rfl ?_ | refine WL.runF rfl rfl rfl gdQ ?_ | (refine WL.cases rfl rfl rfl (fun hg => ?_) (fun hg => ?_) <;> (try first | (with_reducible replace hg := of_decide_eq_true hg) | (with_reducible replace hg := of_decide_eq_false hg) | (with_reducible replace hg := eqT hg) | (with_reducible replace hg := eqF hg) | (with_reducible replace hg := neT hg) | (with_reducible replace hg := neF hg) | (with_reducible replace hg := noT hg) | (with_reducible replace hg := noF hg)) <;> (try (exfalso; omega))))
    | ((with_reducible refine WL.isN_box ?_); first | refine WL.step rfl (StepTo.boxA rfl rfl rfl rfl (fun _ => ?_)) | refine WL.step rfl (StepTo.box1 rfl rfl rfl rfl rfl (fun _ => ?_)))
    | ((with_reducible refine WL.isN_alloc ?_); first | refine WL.step rfl (StepTo.allocA rfl rfl rfl rfl (fun _ => ?_)) | refine WL.step rfl (StepTo.alloc1 rfl rfl rfl rfl rfl (fun _ => ?_)))
    | ((with_reducible refine WL.isN_store ?_); first | refine WL.step rfl (StepTo.store1 0 rfl rfl rfl rfl rfl rfl rfl overQ setQ ?_) | refine WL.step rfl (StepTo.storeA 0 rfl rfl rfl rfl rfl rfl rfl rfl overQ setQ ?_) | refine WL.step rfl (StepTo.storeRow 0 rfl rfl rfl rfl rfl rfl rfl rfl (by omega) setQ ?_) | refine WL.step rfl (StepTo.store1 1 rfl rfl rfl rfl rfl rfl rfl overQ setQ ?_) | refine WL.step rfl (StepTo.storeA 1 rfl rfl rfl rfl rfl rfl rfl rfl overQ setQ ?_) | refine WL.step rfl (StepTo.storeRow 1 rfl rfl rfl rfl rfl rfl rfl rfl (by omega) setQ ?_) | refine WL.step rfl (StepTo.store1 2 rfl rfl rfl rfl rfl rfl rfl overQ setQ ?_) | refine WL.step rfl (StepTo.storeA 2 rfl rfl rfl rfl rfl rfl rfl rfl overQ setQ ?_) | refine WL.step rfl (StepTo.storeRow 2 rfl rfl rfl rfl rfl rfl rfl rfl (by omega) setQ ?_) | refine WL.step rfl (StepTo.store1 3 rfl rfl rfl rfl rfl rfl rfl overQ setQ ?_) | refine WL.step rfl (StepTo.storeA 3 rfl rfl rfl rfl rfl rfl rfl rfl overQ setQ ?_) | refine WL.step rfl (StepTo.storeRow 3 rfl rfl rfl rfl rfl rfl rfl rfl (by omega) setQ ?_) | refine WL.step rfl (StepTo.store1 4 rfl rfl rfl rfl rfl rfl rfl overQ setQ ?_) | refine WL.step rfl (StepTo.storeA 4 rfl rfl rfl rfl rfl rfl rfl rfl overQ setQ ?_) | refine WL.step rfl (StepTo.storeRow 4 rfl rfl rfl rfl rfl rfl rfl rfl (by omega) setQ ?_) | refine WL.step rfl (StepTo.store1 5 rfl rfl rfl rfl rfl rfl rfl overQ setQ ?_) | refine WL.step rfl (StepTo.storeA 5 rfl rfl rfl rfl rfl rfl rfl rfl overQ setQ ?_) | refine WL.step rfl (StepTo.storeRow 5 rfl rfl rfl rfl rfl rfl rfl rfl (by omega) setQ ?_) | refine WL.step rfl (StepTo.store1 6 rfl rfl rfl rfl rfl rfl rfl overQ setQ ?_) | refine WL.step rfl (StepTo.storeA 6 rfl rfl rfl rfl rfl rfl rfl rfl overQ setQ ?_) | refine WL.step rfl (StepTo.storeRow 6 rfl rfl rfl rfl rfl rfl rfl rfl (by omega) setQ ?_) | refine WL.step rfl (StepTo.store1 7 rfl rfl rfl rfl rfl rfl rfl overQ setQ ?_) | refine WL.step rfl (StepTo.storeA 7 rfl rfl rfl rfl rfl rfl rfl rfl overQ setQ ?_) | refine WL.step rfl (StepTo.storeRow 7 rfl rfl rfl rfl rfl rfl rfl rfl (by omega) setQ ?_) | refine WL.step rfl (StepTo.store1 8 rfl rfl rfl rfl rfl rfl rfl overQ setQ ?_) | refine WL.step rfl (StepTo.storeA 8 rfl rfl rfl rfl rfl rfl rfl rfl overQ setQ ?_) | refine WL.step rfl (StepTo.storeRow 8 rfl rfl rfl rfl rfl rfl rfl rfl (by omega) setQ ?_) | refine WL.step rfl (StepTo.store1 9 rfl rfl rfl rfl rfl rfl rfl overQ setQ ?_) | refine WL.step rfl (StepTo.storeA 9 rfl rfl rfl rfl rfl rfl rfl rfl overQ setQ ?_) | refine WL.step rfl (StepTo.storeRow 9 rfl rfl rfl rfl rfl rfl rfl rfl (by omega) setQ ?_) | refine WL.step rfl (StepTo.store1 10 rfl rfl rfl rfl rfl rfl rfl overQ setQ ?_) | refine WL.step rfl (StepTo.storeA 10 rfl rfl rfl rfl rfl rfl rfl rfl overQ setQ ?_) | refine WL.step rfl (StepTo.storeRow 10 rfl rfl rfl rfl rfl rfl rfl rfl (by omega) setQ ?_) | refine WL.step rfl (StepTo.store1 11 rfl rfl rfl rfl rfl rfl rfl overQ setQ ?_) | refine WL.step rfl (StepTo.storeA 11 rfl rfl rfl rfl rfl rfl rfl rfl overQ setQ ?_) | refine WL.step rfl (StepTo.storeRow 11 rfl rfl rfl rfl rfl rfl rfl rfl (by omega) setQ ?_))
    | with_reducible refine WC.block ?_
    | with_reducible refine WC.scope ?_
    | with_reducible refine WC.label ?_
    | with_reducible refine WQ.ngN ?_
    | with_reducible refine WQ.ngR ?_
    | with_reducible refine WQ.ngX ?_
    | with_reducible refine WC.skip ?_
    | with_reducible refine WC.ret ?_
    | with_reducible refine WC.exit ?_
    | with_reducible refine WQ.thenR ?_
    | with_reducible refine WQ.thenX ?_
    | with_reducible refine WQ.blkN ?_
    | with_reducible refine WQ.blkR ?_
    | ((with_reducible refine WQ.blkX ?_ ?_); focus rfl)
    | ((with_reducible refine WQ.blkY ?_ ?_); focus rfl)
    | refine WC.condT rfl ?_
    | refine WC.condF rfl ?_
    | refine WC.condTh rfl gdQ ?_
    | refine WC.condFh rfl gdQ ?_
    | (refine WC.cond rfl (fun hc => ?_) (fun hc => ?_) <;> (try first | (with_reducible replace hc := of_decide_eq_true hc) | (with_reducible replace hc := of_decide_eq_false hc) | (with_reducible replace hc := eqT hc) | (with_reducible replace hc := eqF hc) | (with_reducible replace hc := neT hc) | (with_reducible replace hc := neF hc) | (with_reducible replace hc := noT hc) | (with_reducible replace hc := noF hc)) <;> (try (exfalso; omega)))
    | exact WQ.body (Reads.tmp rfl rfl) (fun _ hw' => ⟨ret_bool gdQ, hw'.ext.below⟩))
  rename_i bs
  rintro v N ⟨A1, c1, rfl, rfl⟩
  by_cases hR : RightP cum ps
  case neg =>
    repeat' (first
    | with_reducible refine WL.nil ?_
    | with_reducible refine WQ.thenN ?_
    | with_reducible refine WQ.code ?_
    | with_reducible refine WC.seq ?_
    | with_reducible refine WC.region ?_
    | ((with_reducible refine WL.isN_move ?_); first | refine WL.yld rfl (Yld.pure rfl nrmQ) ?_)
    | ((with_reducible refine WL.isN_assign ?_); first | refine WL.yld rfl (Yld.pure rfl nrmQ) ?_)
    | ((with_reducible refine WL.isN_bin ?_); first | refine WL.yld rfl (Yld.pure rfl nrmQ) ?_ | refine WL.yld rfl (Yld.rem rfl rfl rfl rfl (by omega) (by omega)) ?_ | refine WL.yld rfl (Yld.quo rfl rfl rfl rfl (by omega) (by omega) nrmQ) ?_ | refine WL.yld rfl (Yld.eqlB rfl rfl rfl rfl) ?_ | refine WL.yld rfl (Yld.neqB rfl rfl rfl rfl) ?_ | refine WL.yld rfl (Yld.eqlA 4 rfl rfl rfl (by kernel_rfl) (by kernel_rfl) rfl rfl) ?_ | refine WL.yld rfl (Yld.neqA 4 rfl rfl rfl (by kernel_rfl) (by kernel_rfl) rfl rfl) ?_ | refine WL.yld rfl (Yld.quoT rfl rfl rfl rfl (by omega) nrmQ) ?_)
    | ((with_reducible refine WL.isN_un ?_); first | refine WL.yld rfl (Yld.pure rfl nrmQ) ?_)
    | ((with_reducible refine WL.isN_extract ?_); first | refine WL.yld rfl (Yld.pure rfl nrmQ) ?_)
    | ((with_reducible refine WL.isN_load ?_); first | refine WL.yld rfl (Yld.load rfl rfl rfl rfl cellQ) ?_ | refine WL.yld rfl (Yld.loadAgg rfl rfl rfl rfl rfl aggQ) ?_)
    | ((with_reducible refine WL.isN_iaddr ?_); first | refine WL.yld rfl (Yld.indexS 0 rfl rfl rfl rfl rfl rfl (by omega)) ?_ | refine WL.yld rfl (Yld.indexS 1 rfl rfl rfl rfl rfl rfl (by omega)) ?_ | refine WL.yld rfl (Yld.indexS 2 rfl rfl rfl rfl rfl rfl (by omega)) ?_ | refine WL.yld rfl (Yld.indexS _ rfl rfl rfl rfl rfl rfl (by omega)) ?_ | refine WL.yld rfl (Yld.indexA 0 rfl rfl rfl rfl rfl rfl (by omega)) ?_ | refine WL.yld rfl (Yld.indexA 1 rfl rfl rfl rfl rfl rfl (by omega)) ?_ | refine WL.yld rfl (Yld.indexA _ rfl rfl rfl rfl rfl rfl (by omega)) ?_)
    | ((with_reducible refine WL.isN_pick ?_); first | refine WL.yld rfl (Yld.pickT rfl rfl rfl) ?_ | refine WL.yld rfl (Yld.pickF rfl rfl rfl) ?_ | refine WL.yld rfl (Yld.pickTh rfl rfl gdQ rfl) ?_ | refine WL.yld rfl (Yld.pickFh rfl rfl gdQ rfl) ?_ | refine WL.yld rfl (Yld.pickB rfl rfl rfl rfl) ?_)
    | ((with_reducible refine WL.isN_call ?_); first | refine WL.step rfl (StepTo.callV (v := .bool false) (us := [.agg #[.int .u32 cum, .slice A1 ps.length c1]]) rfl rfl rfl rfl rfl (by kernel_rfl) (fun w hw => right_no (hw.lstRow 0 Pc.cs_len (by omega) rfl (by simp only [maxLen]; omega)) hR) ?_) | refine WL.yld rfl (Yld.lenSlice rfl rfl rfl) ?_ | refine WL.yld rfl (Yld.lenStr rfl rfl rfl) ?_)
    | ((with_reducible refine WL.isT ?_); first | refine WL.skipT rfl rfl rfl rfl gdQ ?_ | refine WL.skipU rfl rfl rfl rfl ?_ | refine WL.runT rfl rfl rfl gdQ ?_ | (refine WL.cases rfl rfl rfl (fun hg => ?_) (fun hg => ?_) <;> (try first | (with_reducible replace hg := of_decide_eq_true hg) | (with_reducible replace hg := of_decide_eq_false hg) | (with_reducible replace hg := eqT hg) | (with_reducible replace hg := eqF hg) | (with_reducible replace hg := neT hg) | (with_reducible replace hg := neF hg) | (with_reducible replace hg := noT hg) | (with_reducible replace hg := noF hg)) <;> (try (exfalso; omega))))
    | ((with_reducible refine WL.isF ?_); first | refine WL.skipF rfl rfl rfl rfl gdQ ?_ | refine WL.skipU rfl rfl rfl rfl ?_ | refine WL.runF rfl rfl rfl gdQ ?_ | (refine WL.cases rfl rfl rfl (fun hg => ?_) (fun hg => ?_) <;> (try first | (with_reducible replace hg := of_decide_eq_true hg) | (with_reducible replace hg := of_decide_eq_false hg) | (with_reducible replace hg := eqT hg) | (with_reducible replace hg := eqF hg) | (with_reducible replace hg := neT hg) | (with_reducible replace hg := neF hg) | (with_reducible replace hg := noT hg) | (with_reducible replace hg := noF hg)) <;> (try (exfalso; omega))))
    | ((with_reducible refine WL.isN_box ?_); first | refine WL.step rfl (StepTo.boxA rfl rfl rfl rfl (fun _ => ?_)) | refine WL.step rfl (StepTo.box1 rfl rfl rfl rfl rfl (fun _ => ?_)))
    | ((with_reducible refine WL.isN_alloc ?_); first | refine WL.step rfl (StepTo.allocA rfl rfl rfl rfl (fun _ => ?_)) | refine WL.step rfl (StepTo.alloc1 rfl rfl rfl rfl rfl (fun _ => ?_)))
    | ((with_reducible refine WL.isN_store ?_); first | refine WL.step rfl (StepTo.store1 0 rfl rfl rfl rfl rfl rfl rfl overQ setQ ?_) | refine WL.step rfl (StepTo.storeA 0 rfl rfl rfl rfl rfl rfl rfl rfl overQ setQ ?_) | refine WL.step rfl (StepTo.storeRow 0 rfl rfl rfl rfl rfl rfl rfl rfl (by omega) setQ ?_) | refine WL.step rfl (StepTo.store1 1 rfl rfl rfl rfl rfl rfl rfl overQ setQ ?_) | refine WL.step rfl (StepTo.storeA 1 rfl rfl rfl rfl rfl rfl rfl rfl overQ setQ ?_) | refine WL.step rfl (StepTo.storeRow 1 rfl rfl rfl rfl rfl rfl rfl rfl (by omega) setQ ?_) | refine WL.step rfl (StepTo.store1 2 rfl rfl rfl rfl rfl rfl rfl overQ setQ ?_) | refine WL.step rfl (StepTo.storeA 2 rfl rfl rfl rfl rfl rfl rfl rfl overQ setQ ?_) | refine WL.step rfl (StepTo.storeRow 2 rfl rfl rfl rfl rfl rfl rfl rfl (by omega) setQ ?_) | refine WL.step rfl (StepTo.store1 3 rfl rfl rfl rfl rfl rfl rfl overQ setQ ?_) | refine WL.step rfl (StepTo.storeA 3 rfl rfl rfl rfl rfl rfl rfl rfl overQ setQ ?_) | refine WL.step rfl (StepTo.storeRow 3 rfl rfl rfl rfl rfl rfl rfl rfl (by omega) setQ ?_) | refine WL.step rfl (StepTo.store1 4 rfl rfl rfl rfl rfl rfl rfl overQ setQ ?_) | refine WL.step rfl (StepTo.storeA 4 rfl rfl rfl rfl rfl rfl rfl rfl overQ setQ ?_) | refine WL.step rfl (StepTo.storeRow 4 rfl rfl rfl rfl rfl rfl rfl rfl (by omega) setQ ?_) | refine WL.step rfl (StepTo.store1 5 rfl rfl rfl rfl rfl rfl rfl overQ setQ ?_) | refine WL.step rfl (StepTo.storeA 5 rfl rfl rfl rfl rfl rfl rfl rfl overQ setQ ?_) | refine WL.step rfl (StepTo.storeRow 5 rfl rfl rfl rfl rfl rfl rfl rfl (by omega) setQ ?_) | refine WL.step rfl (StepTo.store1 6 rfl rfl rfl rfl rfl rfl rfl overQ setQ ?_) | refine WL.step rfl (StepTo.storeA 6 rfl rfl rfl rfl rfl rfl rfl rfl overQ setQ ?_) | refine WL.step rfl (StepTo.storeRow 6 rfl rfl rfl rfl rfl rfl rfl rfl (by omega) setQ ?_) | refine WL.step rfl (StepTo.store1 7 rfl rfl rfl rfl rfl rfl rfl overQ setQ ?_) | refine WL.step rfl (StepTo.storeA 7 rfl rfl rfl rfl rfl rfl rfl rfl overQ setQ ?_) | refine WL.step rfl (StepTo.storeRow 7 rfl rfl rfl rfl rfl rfl rfl rfl (by omega) setQ ?_) | refine WL.step rfl (StepTo.store1 8 rfl rfl rfl rfl rfl rfl rfl overQ setQ ?_) | refine WL.step rfl (StepTo.storeA 8 rfl rfl rfl rfl rfl rfl rfl rfl overQ setQ ?_) | refine WL.step rfl (StepTo.storeRow 8 rfl rfl rfl rfl rfl rfl rfl rfl (by omega) setQ ?_) | refine WL.step rfl (StepTo.store1 9 rfl rfl rfl rfl rfl rfl rfl overQ setQ ?_) | refine WL.step rfl (StepTo.storeA 9 rfl rfl rfl rfl rfl rfl rfl rfl overQ setQ ?_) | refine WL.step rfl (StepTo.storeRow 9 rfl rfl rfl rfl rfl rfl rfl rfl (by omega) setQ ?_) | refine WL.step rfl (StepTo.store1 10 rfl rfl rfl rfl rfl rfl rfl overQ setQ ?_) | refine WL.step rfl (StepTo.storeA 10 rfl rfl rfl rfl rfl rfl rfl rfl overQ setQ ?_) | refine WL.step rfl (StepTo.storeRow 10 rfl rfl rfl rfl rfl rfl rfl rfl (by omega) setQ ?_) | refine WL.step rfl (StepTo.store1 11 rfl rfl rfl rfl rfl rfl rfl overQ setQ ?_) | refine WL.step rfl (StepTo.storeA 11 rfl rfl rfl rfl rfl rfl rfl rfl overQ setQ ?_) | refine WL.step rfl (StepTo.storeRow 11 rfl rfl rfl rfl rfl rfl rfl rfl (by omega) setQ ?_))
    | with_reducible refine WC.block ?_
    | with_reducible refine WC.scope ?_
    | with_reducible refine WC.label ?_
    | with_reducible refine WQ.ngN ?_
    | with_reducible refine WQ.ngR ?_
    | with_reducible refine WQ.ngX ?_
    | with_reducible refine WC.skip ?_
    | with_reducible refine WC.ret ?_
    | with_reducible refine WC.exit ?_
    | with_reducible refine WQ.thenR ?_
    | with_reducible refine WQ.thenX ?_
    | with_reducible refine WQ.blkN ?_
    | with_reducible refine WQ.blkR ?_
    | ((with_reducible refine WQ.blkX ?_ ?_); focus rfl)
    | ((with_reducible refine WQ.blkY ?_ ?_); focus rfl)
    | refine WC.condT rfl ?_
    | refine WC.condF rfl ?_
    | refine WC.condTh rfl gdQ ?_
    | refine WC.condFh rfl gdQ ?_
    | (refine WC.cond rfl (fun hc => ?_) (fun hc => ?_) <;> (try first | (with_reducible replace hc := of_decide_eq_true hc) | (with_reducible replace hc := of_decide_eq_false hc) | (with_reducible replace hc := eqT hc) | (with_reducible replace hc := eqF hc) | (with_reducible replace hc := neT hc) | (with_reducible replace hc := neF hc) | (with_reducible replace hc := noT hc) | (with_reducible replace hc := noF hc)) <;> (try (exfalso; omega)))
    | exact WQ.body (Reads.tmp rfl rfl) (fun _ hw' => ⟨ret_bool gdQ, hw'.ext.below⟩))
  have hs := hR.small
  have hn64 := hR.2
  by_cases hto : to < 0
  case pos =>
    repeat' (first
    | with_reducible refine WL.nil ?_
    | with_reducible refine WQ.thenN ?_
    | with_reducible refine WQ.code ?_
    | with_reducible refine WC.seq ?_
    | with_reducible refine WC.region ?_
    | ((with_reducible refine WL.isN_move ?_); first | refine WL.yld rfl (Yld.pure rfl nrmQ) ?_)
    | ((with_reducible refine WL.isN_assign ?_); first | refine WL.yld rfl (Yld.pure rfl nrmQ) ?_)
    | ((with_reducible refine WL.isN_bin ?_); first | refine WL.yld rfl (Yld.pure rfl nrmQ) ?_ | refine WL.yld rfl (Yld.rem rfl rfl rfl rfl (by omega) (by omega)) ?_ | refine WL.yld rfl (Yld.quo rfl rfl rfl rfl (by omega) (by omega) nrmQ) ?_ | refine WL.yld rfl (Yld.eqlB rfl rfl rfl rfl) ?_ | refine WL.yld rfl (Yld.neqB rfl rfl rfl rfl) ?_ | refine WL.yld rfl (Yld.eqlA 4 rfl rfl rfl (by kernel_rfl) (by kernel_rfl) rfl rfl) ?_ | refine WL.yld rfl (Yld.neqA 4 rfl rfl rfl (by kernel_rfl) (by kernel_rfl) rfl rfl) ?_ | refine WL.yld rfl (Yld.quoT rfl rfl rfl rfl (by omega) nrmQ) ?_)
    | ((with_reducible refine WL.isN_un ?_); first | refine WL.yld rfl (Yld.pure rfl nrmQ) ?_)
    | ((with_reducible refine WL.isN_extract ?_); first | refine WL.yld rfl (Yld.pure rfl nrmQ) ?_)
    | ((with_reducible refine WL.isN_load ?_); first | refine WL.yld rfl (Yld.load rfl rfl rfl rfl cellQ) ?_ | refine WL.yld rfl (Yld.loadAgg rfl rfl rfl rfl rfl aggQ) ?_)
    | ((with_reducible refine WL.isN_iaddr ?_); first | refine WL.yld rfl (Yld.indexS 0 rfl rfl rfl rfl rfl rfl (by omega)) ?_ | refine WL.yld rfl (Yld.indexS 1 rfl rfl rfl rfl rfl rfl (by omega)) ?_ | refine WL.yld rfl (Yld.indexS 2 rfl rfl rfl rfl rfl rfl (by omega)) ?_ | refine WL.yld rfl (Yld.indexS _ rfl rfl rfl rfl rfl rfl (by omega)) ?_ | refine WL.yld rfl (Yld.indexA 0 rfl rfl rfl rfl rfl rfl (by omega)) ?_ | refine WL.yld rfl (Yld.indexA 1 rfl rfl rfl rfl rfl rfl (by omega)) ?_ | refine WL.yld rfl (Yld.indexA _ rfl rfl rfl rfl rfl rfl (by omega)) ?_)
    | ((with_reducible refine WL.isN_pick ?_); first | refine WL.yld rfl (Yld.pickT rfl rfl rfl) ?_ | refine WL.yld rfl (Yld.pickF rfl rfl rfl) ?_ | refine WL.yld rfl (Yld.pickTh rfl rfl gdQ rfl) ?_ | refine WL.yld rfl (Yld.pickFh rfl rfl gdQ rfl) ?_ | refine WL.yld rfl (Yld.pickB rfl rfl rfl rfl) ?_)
    | ((with_reducible refine WL.isN_call ?_); first | refine WL.step rfl (StepTo.callV (v := .bool true) (us := [.agg #[.int .u32 cum, .slice A1 ps.length c1]]) rfl rfl rfl rfl rfl (by kernel_rfl) (fun w hw => right_yes (hw.lstRow 0 Pc.cs_len (by omega) rfl (by simp only [maxLen]; omega)) hR) ?_) | refine WL.yld rfl (Yld.lenSlice rfl rfl rfl) ?_ | refine WL.yld rfl (Yld.lenStr rfl rfl rfl) ?_)
    | ((with_reducible refine WL.isT ?_); first | refine WL.skipT rfl rfl rfl rfl gdQ ?_ | refine WL.skipU rfl rfl rfl rfl ?_ | refine WL.runT rfl rfl rfl gdQ ?_ | (refine WL.cases rfl rfl rfl (fun hg => ?_) (fun hg => ?_) <;> (try first | (with_reducible replace hg := of_decide_eq_true hg) | (with_reducible replace hg := of_decide_eq_false hg) | (with_reducible replace hg := eqT hg) | (with_reducible replace hg := eqF hg) | (with_reducible replace hg := neT hg) | (with_reducible replace hg := neF hg) | (with_reducible replace hg := noT hg) | (with_reducible replace hg := noF hg)) <;> (try (exfalso; omega))))
    | ((with_reducible refine WL.isF ?_); first | refine WL.skipF rfl rfl rfl rfl gdQ ?_ | refine WL.skipU rfl rfl rfl rfl ?_ | refine WL.runF rfl rfl rfl gdQ ?_ | (refine WL.cases rfl rfl rfl (fun hg => ?_) (fun hg => ?_) <;> (try first | (with_reducible replace hg := of_decide_eq_true hg) | (with_reducible replace hg := of_decide_eq_false hg) | (with_reducible replace hg := eqT hg) | (with_reducible replace hg := eqF hg) | (with_reducible replace hg := neT hg) | (with_reducible replace hg := neF hg) | (with_reducible replace hg := noT hg) | (with_reducible replace hg := noF hg)) <;> (try (exfalso; omega))))
    | ((with_reducible refine WL.isN_box ?_); first | refine WL.step rfl (StepTo.boxA rfl rfl rfl rfl (fun _ => ?_)) | refine WL.step rfl (StepTo.box1 rfl rfl rfl rfl rfl (fun _ => ?_)))
    | ((with_reducible refine WL.isN_alloc ?_); first | refine WL.step rfl (StepTo.allocA rfl rfl rfl rfl (fun _ => ?_)) | refine WL.step rfl (StepTo.alloc1 rfl rfl rfl rfl rfl (fun _ => ?_)))
    | ((with_reducible refine WL.isN_store ?_); first | refine WL.step rfl (StepTo.store1 0 rfl rfl rfl rfl rfl rfl rfl overQ setQ ?_) | refine WL.step rfl (StepTo.storeA 0 rfl rfl rfl rfl rfl rfl rfl rfl overQ setQ ?_) | refine WL.step rfl (StepTo.storeRow 0 rfl rfl rfl rfl rfl rfl rfl rfl (by omega) setQ ?_) | refine WL.step rfl (StepTo.store1 1 rfl rfl rfl rfl rfl rfl rfl overQ setQ ?_) | refine WL.step rfl (StepTo.storeA 1 rfl rfl rfl rfl rfl rfl rfl rfl overQ setQ ?_) | refine WL.step rfl (StepTo.storeRow 1 rfl rfl rfl rfl rfl rfl rfl rfl (by omega) setQ ?_) | refine WL.step rfl (StepTo.store1 2 rfl rfl rfl rfl rfl rfl rfl overQ setQ ?_) | refine WL.step rfl (StepTo.storeA 2 rfl rfl rfl rfl rfl rfl rfl rfl overQ setQ ?_) | refine WL.step rfl (StepTo.storeRow 2 rfl rfl rfl rfl rfl rfl rfl rfl (by omega) setQ ?_) | refine WL.step rfl (StepTo.store1 3 rfl rfl rfl rfl rfl rfl rfl overQ setQ ?_) | refine WL.step rfl (StepTo.storeA 3 rfl rfl rfl rfl rfl rfl rfl rfl overQ setQ ?_) | refine WL.step rfl (StepTo.storeRow 3 rfl rfl rfl rfl rfl rfl rfl rfl (by omega) setQ ?_) | refine WL.step rfl (StepTo.store1 4 rfl rfl rfl rfl rfl rfl rfl overQ setQ ?_) | refine WL.step rfl (StepTo.storeA 4 rfl rfl rfl rfl rfl rfl rfl rfl overQ setQ ?_) | refine WL.step rfl (StepTo.storeRow 4 rfl rfl rfl rfl rfl rfl rfl rfl (by omega) setQ ?_) | refine WL.step rfl (StepTo.store1 5 rfl rfl rfl rfl rfl rfl rfl overQ setQ ?_) | refine WL.step rfl (StepTo.storeA 5 rfl rfl rfl rfl rfl rfl rfl rfl overQ setQ ?_) | refine WL.step rfl (StepTo.storeRow 5 rfl rfl rfl rfl rfl rfl rfl rfl (by omega) setQ ?_) | refine WL.step rfl (StepTo.store1 6 rfl rfl rfl rfl rfl rfl rfl overQ setQ ?_) | refine WL.step rfl (StepTo.storeA 6 rfl rfl rfl rfl rfl rfl rfl rfl overQ setQ ?_) | refine WL.step rfl (StepTo.storeRow 6 rfl rfl rfl rfl rfl rfl rfl rfl (by omega) setQ ?_) | refine WL.step rfl (StepTo.store1 7 rfl rfl rfl rfl rfl rfl rfl overQ setQ ?_) | refine WL.step rfl (StepTo.storeA 7 rfl rfl rfl rfl rfl rfl rfl rfl overQ setQ ?_) | refine WL.step rfl (StepTo.storeRow 7 rfl rfl rfl rfl rfl rfl rfl rfl (by omega) setQ ?_) | refine WL.step rfl (StepTo.store1 8 rfl rfl rfl rfl rfl rfl rfl overQ setQ ?_) | refine WL.step rfl (StepTo.storeA 8 rfl rfl rfl rfl rfl rfl rfl rfl overQ setQ ?_) | refine WL.step rfl (StepTo.storeRow 8 rfl rfl rfl rfl rfl rfl rfl rfl (by omega) setQ ?_) | refine WL.step rfl (StepTo.store1 9 rfl rfl rfl rfl rfl rfl rfl overQ setQ ?_) | refine WL.step rfl (StepTo.storeA 9 rfl rfl rfl rfl rfl rfl rfl rfl overQ setQ ?_) | refine WL.step rfl (StepTo.storeRow 9 rfl rfl rfl rfl rfl rfl rfl rfl (by omega) setQ ?_) | refine WL.step rfl (StepTo.store1 10 rfl rfl rfl rfl rfl rfl rfl overQ setQ ?_) | refine WL.step rfl (StepTo.storeA 10 rfl rfl rfl rfl rfl rfl rfl rfl overQ setQ ?_) | refine WL.step rfl (StepTo.storeRow 10 rfl rfl rfl rfl rfl rfl rfl rfl (by omega) setQ ?_) | refine WL.step rfl (StepTo.store1 11 rfl rfl rfl rfl rfl rfl rfl overQ setQ ?_) | refine WL.step rfl (StepTo.storeA 11 rfl rfl rfl rfl rfl rfl rfl rfl overQ setQ ?_) | refine WL.step rfl (StepTo.storeRow 11 rfl rfl rfl rfl rfl rfl rfl rfl (by omega) setQ ?_))
    | with_reducible refine WC.block ?_
    | with_reducible refine WC.scope ?_
    | with_reducible refine WC.label ?_
    | with_reducible refine WQ.ngN ?_
    | with_reducible refine WQ.ngR ?_
    | with_reducible refine WQ.ngX ?_
    | with_reducible refine WC.skip ?_
    | with_reducible refine WC.ret ?_
    | with_reducible refine WC.exit ?_
    | with_reducible refine WQ.thenR ?_
    | with_reducible refine WQ.thenX ?_
    | with_reducible refine WQ.blkN ?_
    | with_reducible refine WQ.blkR ?_
    | ((with_reducible refine WQ.blkX ?_ ?_); focus rfl)
    | ((with_reducible refine WQ.blkY ?_ ?_); focus rfl)
    | refine WC.condT rfl ?_
    | refine WC.condF rfl ?_
    | refine WC.condTh rfl gdQ ?_
    | refine WC.condFh rfl gdQ ?_
    | (refine WC.cond rfl (fun hc => ?_) (fun hc => ?_) <;> (try first | (with_reducible replace hc := of_decide_eq_true hc) | (with_reducible replace hc := of_decide_eq_false hc) | (with_reducible replace hc := eqT hc) | (with_reducible replace hc := eqF hc) | (with_reducible replace hc := neT hc) | (with_reducible replace hc := neF hc) | (with_reducible replace hc := noT hc) | (with_reducible replace hc := noF hc)) <;> (try (exfalso; omega)))
    | exact WQ.body (Reads.tmp rfl rfl) (fun _ hw' => ⟨ret_bool gdQ, hw'.ext.below⟩))
  repeat' (first
    | with_reducible refine WL.nil ?_
    | with_reducible refine WQ.thenN ?_
    | with_reducible refine WQ.code ?_
    | with_reducible refine WC.seq ?_
    | with_reducible refine WC.region ?_
    | ((with_reducible refine WL.isN_move ?_); first | refine WL.yld rfl (Yld.pure rfl nrmQ) ?_)
    | ((with_reducible refine WL.isN_assign ?_); first | refine WL.yld rfl (Yld.pure rfl nrmQ) ?_)
    | ((with_reducible refine WL.isN_bin ?_); first | refine WL.yld rfl (Yld.pure rfl nrmQ) ?_ | refine WL.yld rfl (Yld.rem rfl rfl rfl rfl (by omega) (by omega)) ?_ | refine WL.yld rfl (Yld.quo rfl rfl rfl rfl (by omega) (by omega) nrmQ) ?_ | refine WL.yld rfl (Yld.eqlB rfl rfl rfl rfl) ?_ | refine WL.yld rfl (Yld.neqB rfl rfl rfl rfl) ?_ | refine WL.yld rfl (Yld.eqlA 4 rfl rfl rfl (by kernel_rfl) (by kernel_rfl) rfl rfl) ?_ | refine WL.yld rfl (Yld.neqA 4 rfl rfl rfl (by kernel_rfl) (by kernel_rfl) rfl rfl) ?_ | refine WL.yld rfl (Yld.quoT rfl rfl rfl rfl (by omega) nrmQ) ?_)
    | ((with_reducible refine WL.isN_un ?_); first | refine WL.yld rfl (Yld.pure rfl nrmQ) ?_)
    | ((with_reducible refine WL.isN_extract ?_); first | refine WL.yld rfl (Yld.pure rfl nrmQ) ?_)
    | ((with_reducible refine WL.isN_load ?_); first | refine WL.yld rfl (Yld.load rfl rfl rfl rfl cellQ) ?_ | refine WL.yld rfl (Yld.loadAgg rfl rfl rfl rfl rfl aggQ) ?_)
    | ((with_reducible refine WL.isN_iaddr ?_); first | refine WL.yld rfl (Yld.indexS 0 rfl rfl rfl rfl rfl rfl (by omega)) ?_ | refine WL.yld rfl (Yld.indexS 1 rfl rfl rfl rfl rfl rfl (by omega)) ?_ | refine WL.yld rfl (Yld.indexS 2 rfl rfl rfl rfl rfl rfl (by omega)) ?_ | refine WL.yld rfl (Yld.indexS _ rfl rfl rfl rfl rfl rfl (by omega)) ?_ | refine WL.yld rfl (Yld.indexA 0 rfl rfl rfl rfl rfl rfl (by omega)) ?_ | refine WL.yld rfl (Yld.indexA 1 rfl rfl rfl rfl rfl rfl (by omega)) ?_ | refine WL.yld rfl (Yld.indexA _ rfl rfl rfl rfl rfl rfl (by omega)) ?_)
    | ((with_reducible refine WL.isN_pick ?_); first | refine WL.yld rfl (Yld.pickT rfl rfl rfl) ?_ | refine WL.yld rfl (Yld.pickF rfl rfl rfl) ?_ | refine WL.yld rfl (Yld.pickTh rfl rfl gdQ rfl) ?_ | refine WL.yld rfl (Yld.pickFh rfl rfl gdQ rfl) ?_ | refine WL.yld rfl (Yld.pickB rfl rfl rfl rfl) ?_)
    | ((with_reducible refine WL.isN_call ?_); first | refine WL.step rfl (StepTo.callV (v := .bool true) (us := [.agg #[.int .u32 cum, .slice A1 ps.length c1]]) rfl rfl rfl rfl rfl (by kernel_rfl) (fun w hw => right_yes (hw.lstRow 0 Pc.cs_len (by omega) rfl (by simp only [maxLen]; omega)) hR) ?_) | refine WL.step rfl (StepTo.callV (v := .int .i64 (underF path ps)) (us := [.agg #[.int .u32 cum, .slice A ps.length c], .int .i64 path]) rfl rfl rfl rfl rfl (by kernel_rfl) (fun w hw => under_q cum A ps.length c ps path w (hw.lst 2 Pc.cs_len (by omega) rfl) hs (by omega)) ?_) | refine WL.step rfl (StepTo.callN [] (us := [.agg #[.int .u32 cum, .slice A ps.length c]]) rfl rfl rfl rfl rfl (by kernel_rfl) (fun w hw => losses_w cum A ps.length c ps w (hw.lst 2 Pc.cs_len (by omega) rfl) (by omega)) ?_) | refine WL.yld rfl (Yld.lenSlice rfl rfl rfl) ?_ | refine WL.yld rfl (Yld.lenStr rfl rfl rfl) ?_)
    | ((with_reducible refine WL.isT ?_); first | refine WL.skipT rfl rfl rfl rfl gdQ ?_ | refine WL.skipU rfl rfl rfl rfl ?_ | refine WL.runT rfl rfl rfl gdQ ?_ | (refine WL.cases rfl rfl rfl (fun hg => ?_) (fun hg => ?_) <;> (try first | (with_reducible replace hg := of_decide_eq_true hg) | (with_reducible replace hg := of_decide_eq_false hg) | (with_reducible replace hg := eqT hg) | (with_reducible replace hg := eqF hg) | (with_reducible replace hg := neT hg) | (with_reducible replace hg := neF hg) | (with_reducible replace hg := noT hg) | (with_reducible replace hg := noF hg)) <;> (try (exfalso; omega))))
    | ((with_reducible refine WL.isF ?_); first | refine WL.skipF rfl rfl rfl rfl gdQ ?_ | refine WL.skipU rfl rfl rfl rfl ?_ | refine WL.runF rfl rfl rfl gdQ ?_ | (refine WL.cases rfl rfl rfl (fun hg => ?_) (fun hg => ?_) <;> (try first | (with_reducible replace hg := of_decide_eq_true hg) | (with_reducible replace hg := of_decide_eq_false hg) | (with_reducible replace hg := eqT hg) | (with_reducible replace hg := eqF hg) | (with_reducible replace hg := neT hg) | (with_reducible replace hg := neF hg) | (with_reducible replace hg := noT hg) | (with_reducible replace hg := noF hg)) <;> (try (exfalso; omega))))
    | ((with_reducible refine WL.isN_box ?_); first | refine WL.step rfl (StepTo.boxA rfl rfl rfl rfl (fun _ => ?_)) | refine WL.step rfl (StepTo.box1 rfl rfl rfl rfl rfl (fun _ => ?_)))
    | ((with_reducible refine WL.isN_alloc ?_); first | refine WL.step rfl (StepTo.allocA rfl rfl rfl rfl (fun _ => ?_)) | refine WL.step rfl (StepTo.alloc1 rfl rfl rfl rfl rfl (fun _ => ?_)))
    | ((with_reducible refine WL.isN_store ?_); first | refine WL.step rfl (StepTo.store1 0 rfl rfl rfl rfl rfl rfl rfl overQ setQ ?_) | refine WL.step rfl (StepTo.storeA 0 rfl rfl rfl rfl rfl rfl rfl rfl overQ setQ ?_) | refine WL.step rfl (StepTo.storeRow 0 rfl rfl rfl rfl rfl rfl rfl rfl (by omega) setQ ?_) | refine WL.step rfl (StepTo.store1 1 rfl rfl rfl rfl rfl rfl rfl overQ setQ ?_) | refine WL.step rfl (StepTo.storeA 1 rfl rfl rfl rfl rfl rfl rfl rfl overQ setQ ?_) | refine WL.step rfl (StepTo.storeRow 1 rfl rfl rfl rfl rfl rfl rfl rfl (by omega) setQ ?_) | refine WL.step rfl (StepTo.store1 2 rfl rfl rfl rfl rfl rfl rfl overQ setQ ?_) | refine WL.step rfl (StepTo.storeA 2 rfl rfl rfl rfl rfl rfl rfl rfl overQ setQ ?_) | refine WL.step rfl (StepTo.storeRow 2 rfl rfl rfl rfl rfl rfl rfl rfl (by omega) setQ ?_) | refine WL.step rfl (StepTo.store1 3 rfl rfl rfl rfl rfl rfl rfl overQ setQ ?_) | refine WL.step rfl (StepTo.storeA 3 rfl rfl rfl rfl rfl rfl rfl rfl overQ setQ ?_) | refine WL.step rfl (StepTo.storeRow 3 rfl rfl rfl rfl rfl rfl rfl rfl (by omega) setQ ?_) | refine WL.step rfl (StepTo.store1 4 rfl rfl rfl rfl rfl rfl rfl overQ setQ ?_) | refine WL.step rfl (StepTo.storeA 4 rfl rfl rfl rfl rfl rfl rfl rfl overQ setQ ?_) | refine WL.step rfl (StepTo.storeRow 4 rfl rfl rfl rfl rfl rfl rfl rfl (by omega) setQ ?_) | refine WL.step rfl (StepTo.store1 5 rfl rfl rfl rfl rfl rfl rfl overQ setQ ?_) | refine WL.step rfl (StepTo.storeA 5 rfl rfl rfl rfl rfl rfl rfl rfl overQ setQ ?_) | refine WL.step rfl (StepTo.storeRow 5 rfl rfl rfl rfl rfl rfl rfl rfl (by omega) setQ ?_) | refine WL.step rfl (StepTo.store1 6 rfl rfl rfl rfl rfl rfl rfl overQ setQ ?_) | refine WL.step rfl (StepTo.storeA 6 rfl rfl rfl rfl rfl rfl rfl rfl overQ setQ ?_) | refine WL.step rfl (StepTo.storeRow 6 rfl rfl rfl rfl rfl rfl rfl rfl (by omega) setQ ?_) | refine WL.step rfl (StepTo.store1 7 rfl rfl rfl rfl rfl rfl rfl overQ setQ ?_) | refine WL.step rfl (StepTo.storeA 7 rfl rfl rfl rfl rfl rfl rfl rfl overQ setQ ?_) | refine WL.step rfl (StepTo.storeRow 7 rfl rfl rfl rfl rfl rfl rfl rfl (by omega) setQ ?_) | refine WL.step rfl (StepTo.store1 8 rfl rfl rfl rfl rfl rfl rfl overQ setQ ?_) | refine WL.step rfl (StepTo.storeA 8 rfl rfl rfl rfl rfl rfl rfl rfl overQ setQ ?_) | refine WL.step rfl (StepTo.storeRow 8 rfl rfl rfl rfl rfl rfl rfl rfl (by omega) setQ ?_) | refine WL.step rfl (StepTo.store1 9 rfl rfl rfl rfl rfl rfl rfl overQ setQ ?_) | refine WL.step rfl (StepTo.storeA 9 rfl rfl rfl rfl rfl rfl rfl rfl overQ setQ ?_) | refine WL.step rfl (StepTo.storeRow 9 rfl rfl rfl rfl rfl rfl rfl rfl (by omega) setQ ?_) | refine WL.step rfl (StepTo.store1 10 rfl rfl rfl rfl rfl rfl rfl overQ setQ ?_) | refine WL.step rfl (StepTo.storeA 10 rfl rfl rfl rfl rfl rfl rfl rfl overQ setQ ?_) | refine WL.step rfl (StepTo.storeRow 10 rfl rfl rfl rfl rfl rfl rfl rfl (by omega) setQ ?_) | refine WL.step rfl (StepTo.store1 11 rfl rfl rfl rfl rfl rfl rfl overQ setQ ?_) | refine WL.step rfl (StepTo.storeA 11 rfl rfl rfl rfl rfl rfl rfl rfl overQ setQ ?_) | refine WL.step rfl (StepTo.storeRow 11 rfl rfl rfl rfl rfl rfl rfl rfl (by omega) setQ ?_))
    | with_reducible refine WC.block ?_
    | with_reducible refine WC.scope ?_
    | with_reducible refine WC.label ?_
    | with_reducible refine WQ.ngN ?_
    | with_reducible refine WQ.ngR ?_
    | with_reducible refine WQ.ngX ?_
    | with_reducible refine WC.skip ?_
    | with_reducible refine WC.ret ?_
    | with_reducible refine WC.exit ?_
    | with_reducible refine WQ.thenR ?_
    | with_reducible refine WQ.thenX ?_
    | with_reducible refine WQ.blkN ?_
    | with_reducible refine WQ.blkR ?_
    | ((with_reducible refine WQ.blkX ?_ ?_); focus rfl)
    | ((with_reducible refine WQ.blkY ?_ ?_); focus rfl)
    | refine WC.condT rfl ?_
    | refine WC.condF rfl ?_
    | refine WC.condTh rfl gdQ ?_
    | refine WC.condFh rfl gdQ ?_
    | (refine WC.cond rfl (fun hc => ?_) (fun hc => ?_) <;> (try first | (with_reducible replace hc := of_decide_eq_true hc) | (with_reducible replace hc := of_decide_eq_false hc) | (with_reducible replace hc := eqT hc) | (with_reducible replace hc := eqF hc) | (with_reducible replace hc := neT hc) | (with_reducible replace hc := neF hc) | (with_reducible replace hc := noT hc) | (with_reducible replace hc := noF hc)) <;> (try (exfalso; omega)))
    | exact WQ.body (Reads.tmp rfl rfl) (fun _ hw' => ⟨ret_bool gdQ, hw'.ext.below⟩))
  rintro v N ⟨A2, c2, rfl, rfl⟩
  repeat' (first
    | with_reducible refine WL.nil ?_
    | with_reducible refine WQ.thenN ?_
    | with_reducible refine WQ.code ?_
    | with_reducible refine WC.seq ?_
    | with_reducible refine WC.region ?_
    | ((with_reducible refine WL.isN_move ?_); first | refine WL.yld rfl (Yld.pure rfl nrmQ) ?_)
    | ((with_reducible refine WL.isN_assign ?_); first | refine WL.yld rfl (Yld.pure rfl nrmQ) ?_)
    | ((with_reducible refine WL.isN_bin ?_); first | refine WL.yld rfl (Yld.pure rfl nrmQ) ?_ | refine WL.yld rfl (Yld.rem rfl rfl rfl rfl (by omega) (by omega)) ?_ | refine WL.yld rfl (Yld.quo rfl rfl rfl rfl (by omega) (by omega) nrmQ) ?_ | refine WL.yld rfl (Yld.eqlB rfl rfl rfl rfl) ?_ | refine WL.yld rfl (Yld.neqB rfl rfl rfl rfl) ?_ | refine WL.yld rfl (Yld.eqlA 4 rfl rfl rfl (by kernel_rfl) (by kernel_rfl) rfl rfl) ?_ | refine WL.yld rfl (Yld.neqA 4 rfl rfl rfl (by kernel_rfl) (by kernel_rfl) rfl rfl) ?_ | refine WL.yld rfl (Yld.quoT rfl rfl rfl rfl (by omega) nrmQ) ?_)
    | ((with_reducible refine WL.isN_un ?_); first | refine WL.yld rfl (Yld.pure rfl nrmQ) ?_)
    | ((with_reducible refine WL.isN_extract ?_); first | refine WL.yld rfl (Yld.pure rfl nrmQ) ?_)
    | ((with_reducible refine WL.isN_load ?_); first | refine WL.yld rfl (Yld.load rfl rfl rfl rfl cellQ) ?_ | refine WL.yld rfl (Yld.loadAgg rfl rfl rfl rfl rfl aggQ) ?_)
    | ((with_reducible refine WL.isN_iaddr ?_); first | refine WL.yld rfl (Yld.indexS 0 rfl rfl rfl rfl rfl rfl (by omega)) ?_ | refine WL.yld rfl (Yld.indexS 1 rfl rfl rfl rfl rfl rfl (by omega)) ?_ | refine WL.yld rfl (Yld.indexS 2 rfl rfl rfl rfl rfl rfl (by omega)) ?_ | refine WL.yld rfl (Yld.indexS _ rfl rfl rfl rfl rfl rfl (by omega)) ?_ | refine WL.yld rfl (Yld.indexA 0 rfl rfl rfl rfl rfl rfl (by omega)) ?_ | refine WL.yld rfl (Yld.indexA 1 rfl rfl rfl rfl rfl rfl (by omega)) ?_ | refine WL.yld rfl (Yld.indexA _ rfl rfl rfl rfl rfl rfl (by omega)) ?_)
    | ((with_reducible refine WL.isN_pick ?_); first | refine WL.yld rfl (Yld.pickT rfl rfl rfl) ?_ | refine WL.yld rfl (Yld.pickF rfl rfl rfl) ?_ | refine WL.yld rfl (Yld.pickTh rfl rfl gdQ rfl) ?_ | refine WL.yld rfl (Yld.pickFh rfl rfl gdQ rfl) ?_ | refine WL.yld rfl (Yld.pickB rfl rfl rfl rfl) ?_)
    | ((with_reducible refine WL.isN_call ?_); first | refine WL.step rfl (StepTo.callN [] (us := [.agg #[.int .u32 cum, .slice A ps.length c], .int .i64 path]) rfl rfl rfl rfl rfl (by kernel_rfl) (fun w hw => drop_w cum A ps.length c ps path w (hw.lst 3 Pc.cs_len (by omega) rfl) hA (by omega)) ?_) | refine WL.yld rfl (Yld.lenSlice rfl rfl rfl) ?_ | refine WL.yld rfl (Yld.lenStr rfl rfl rfl) ?_)
    | ((with_reducible refine WL.isT ?_); first | refine WL.skipT rfl rfl rfl rfl gdQ ?_ | refine WL.skipU rfl rfl rfl rfl ?_ | refine WL.runT rfl rfl rfl gdQ ?_ | (refine WL.cases rfl rfl rfl (fun hg => ?_) (fun hg => ?_) <;> (try first | (with_reducible replace hg := of_decide_eq_true hg) | (with_reducible replace hg := of_decide_eq_false hg) | (with_reducible replace hg := eqT hg) | (with_reducible replace hg := eqF hg) | (with_reducible replace hg := neT hg) | (with_reducible replace hg := neF hg) | (with_reducible replace hg := noT hg) | (with_reducible replace hg := noF hg)) <;> (try (exfalso; omega))))
    | ((with_reducible refine WL.isF ?_); first | refine WL.skipF rfl rfl rfl rfl gdQ ?_ | refine WL.skipU rfl rfl rfl rfl ?_ | refine WL.runF rfl rfl rfl gdQ ?_ | (refine WL.cases rfl rfl rfl (fun hg => ?_) (fun hg => ?_) <;> (try first | (with_reducible replace hg := of_decide_eq_true hg) | (with_reducible replace hg := of_decide_eq_false hg) | (with_reducible replace hg := eqT hg) | (with_reducible replace hg := eqF hg) | (with_reducible replace hg := neT hg) | (with_reducible replace hg := neF hg) | (with_reducible replace hg := noT hg) | (with_reducible replace hg := noF hg)) <;> (try (exfalso; omega))))
    | ((with_reducible refine WL.isN_box ?_); first | refine WL.step rfl (StepTo.boxA rfl rfl rfl rfl (fun _ => ?_)) | refine WL.step rfl (StepTo.box1 rfl rfl rfl rfl rfl (fun _ => ?_)))
    | ((with_reducible refine WL.isN_alloc ?_); first | refine WL.step rfl (StepTo.allocA rfl rfl rfl rfl (fun _ => ?_)) | refine WL.step rfl (StepTo.alloc1 rfl rfl rfl rfl rfl (fun _ => ?_)))
    | ((with_reducible refine WL.isN_store ?_); first | refine WL.step rfl (StepTo.store1 0 rfl rfl rfl rfl rfl rfl rfl overQ setQ ?_) | refine WL.step rfl (StepTo.storeA 0 rfl rfl rfl rfl rfl rfl rfl rfl overQ setQ ?_) | refine WL.step rfl (StepTo.storeRow 0 rfl rfl rfl rfl rfl rfl rfl rfl (by omega) setQ ?_) | refine WL.step rfl (StepTo.store1 1 rfl rfl rfl rfl rfl rfl rfl overQ setQ ?_) | refine WL.step rfl (StepTo.storeA 1 rfl rfl rfl rfl rfl rfl rfl rfl overQ setQ ?_) | refine WL.step rfl (StepTo.storeRow 1 rfl rfl rfl rfl rfl rfl rfl rfl (by omega) setQ ?_) | refine WL.step rfl (StepTo.store1 2 rfl rfl rfl rfl rfl rfl rfl overQ setQ ?_) | refine WL.step rfl (StepTo.storeA 2 rfl rfl rfl rfl rfl rfl rfl rfl overQ setQ ?_) | refine WL.step rfl (StepTo.storeRow 2 rfl rfl rfl rfl rfl rfl rfl rfl (by omega) setQ ?_) | refine WL.step rfl (StepTo.store1 3 rfl rfl rfl rfl rfl rfl rfl overQ setQ ?_) | refine WL.step rfl (StepTo.storeA 3 rfl rfl rfl rfl rfl rfl rfl rfl overQ setQ ?_) | refine WL.step rfl (StepTo.storeRow 3 rfl rfl rfl rfl rfl rfl rfl rfl (by omega) setQ ?_) | refine WL.step rfl (StepTo.store1 4 rfl rfl rfl rfl rfl rfl rfl overQ setQ ?_) | refine WL.step rfl (StepTo.storeA 4 rfl rfl rfl rfl rfl rfl rfl rfl overQ setQ ?_) | refine WL.step rfl (StepTo.storeRow 4 rfl rfl rfl rfl rfl rfl rfl rfl (by omega) setQ ?_) | refine WL.step rfl (StepTo.store1 5 rfl rfl rfl rfl rfl rfl rfl overQ setQ ?_) | refine WL.step rfl (StepTo.storeA 5 rfl rfl rfl rfl rfl rfl rfl rfl overQ setQ ?_) | refine WL.step rfl (StepTo.storeRow 5 rfl rfl rfl rfl rfl rfl rfl rfl (by omega) setQ ?_) | refine WL.step rfl (StepTo.store1 6 rfl rfl rfl rfl rfl rfl rfl overQ setQ ?_) | refine WL.step rfl (StepTo.storeA 6 rfl rfl rfl rfl rfl rfl rfl rfl overQ setQ ?_) | refine WL.step rfl (StepTo.storeRow 6 rfl rfl rfl rfl rfl rfl rfl rfl (by omega) setQ ?_) | refine WL.step rfl (StepTo.store1 7 rfl rfl rfl rfl rfl rfl rfl overQ setQ ?_) | refine WL.step rfl (StepTo.storeA 7 rfl rfl rfl rfl rfl rfl rfl rfl overQ setQ ?_) | refine WL.step rfl (StepTo.storeRow 7 rfl rfl rfl rfl rfl rfl rfl rfl (by omega) setQ ?_) | refine WL.step rfl (StepTo.store1 8 rfl rfl rfl rfl rfl rfl rfl overQ setQ ?_) | refine WL.step rfl (StepTo.storeA 8 rfl rfl rfl rfl rfl rfl rfl rfl overQ setQ ?_) | refine WL.step rfl (StepTo.storeRow 8 rfl rfl rfl rfl rfl rfl rfl rfl (by omega) setQ ?_) | refine WL.step rfl (StepTo.store1 9 rfl rfl rfl rfl rfl rfl rfl overQ setQ ?_) | refine WL.step rfl (StepTo.storeA 9 rfl rfl rfl rfl rfl rfl rfl rfl overQ setQ ?_) | refine WL.step rfl (StepTo.storeRow 9 rfl rfl rfl rfl rfl rfl rfl rfl (by omega) setQ ?_) | refine WL.step rfl (StepTo.store1 10 rfl rfl rfl rfl rfl rfl rfl overQ setQ ?_) | refine WL.step rfl (StepTo.storeA 10 rfl rfl rfl rfl rfl rfl rfl rfl overQ setQ ?_) | refine WL.step rfl (StepTo.storeRow 10 rfl rfl rfl rfl rfl rfl rfl rfl (by omega) setQ ?_) | refine WL.step rfl (StepTo.store1 11 rfl rfl rfl rfl rfl rfl rfl overQ setQ ?_) | refine WL.step rfl (StepTo.storeA 11 rfl rfl rfl rfl rfl rfl rfl rfl overQ setQ ?_) | refine WL.step rfl (StepTo.storeRow 11 rfl rfl rfl rfl rfl rfl rfl rfl (by omega) setQ ?_))
    | with_reducible refine WC.block ?_
    | with_reducible refine WC.scope ?_
    | with_reducible refine WC.label ?_
    | with_reducible refine WQ.ngN ?_
    | with_reducible refine WQ.ngR ?_
    | with_reducible refine WQ.ngX ?_
    | with_reducible refine WC.skip ?_
    | with_reducible refine WC.ret ?_
    | with_reducible refine WC.exit ?_
    | with_reducible refine WQ.thenR ?_
    | with_reducible refine WQ.thenX ?_
    | with_reducible refine WQ.blkN ?_
    | with_reducible refine WQ.blkR ?_
    | ((with_reducible refine WQ.blkX ?_ ?_); focus rfl)
    | ((with_reducible refine WQ.blkY ?_ ?_); focus rfl)
    | refine WC.condT rfl ?_
    | refine WC.condF rfl ?_
    | refine WC.condTh rfl gdQ ?_
    | refine WC.condFh rfl gdQ ?_
    | (refine WC.cond rfl (fun hc => ?_) (fun hc => ?_) <;> (try first | (with_reducible replace hc := of_decide_eq_true hc) | (with_reducible replace hc := of_decide_eq_false hc) | (with_reducible replace hc := eqT hc) | (with_reducible replace hc := eqF hc) | (with_reducible replace hc := neT hc) | (with_reducible replace hc := neF hc) | (with_reducible replace hc := noT hc) | (with_reducible replace hc := noF hc)) <;> (try (exfalso; omega)))
    | exact WQ.body (Reads.tmp rfl rfl) (fun _ hw' => ⟨ret_bool gdQ, hw'.ext.below⟩))
  rintro v N ⟨A3, c3, A4, c4, hok3, rfl, rfl⟩
  refine WL.rowVw 0 rfl (by omega) ?_
  repeat' (first
    | with_reducible refine WL.nil ?_
    | with_reducible refine WQ.thenN ?_
    | with_reducible refine WQ.code ?_
    | with_reducible refine WC.seq ?_
    | with_reducible refine WC.region ?_
    | ((with_reducible refine WL.isN_move ?_); first | refine WL.yld rfl (Yld.pure rfl nrmQ) ?_)
    | ((with_reducible refine WL.isN_assign ?_); first | refine WL.yld rfl (Yld.pure rfl nrmQ) ?_)
    | ((with_reducible refine WL.isN_bin ?_); first | refine WL.yld rfl (Yld.pure rfl nrmQ) ?_ | refine WL.yld rfl (Yld.rem rfl rfl rfl rfl (by omega) (by omega)) ?_ | refine WL.yld rfl (Yld.quo rfl rfl rfl rfl (by omega) (by omega) nrmQ) ?_ | refine WL.yld rfl (Yld.eqlB rfl rfl rfl rfl) ?_ | refine WL.yld rfl (Yld.neqB rfl rfl rfl rfl) ?_ | refine WL.yld rfl (Yld.eqlA 4 rfl rfl rfl (by kernel_rfl) (by kernel_rfl) rfl rfl) ?_ | refine WL.yld rfl (Yld.neqA 4 rfl rfl rfl (by kernel_rfl) (by kernel_rfl) rfl rfl) ?_ | refine WL.yld rfl (Yld.quoT rfl rfl rfl rfl (by omega) nrmQ) ?_)
    | ((with_reducible refine WL.isN_un ?_); first | refine WL.yld rfl (Yld.pure rfl nrmQ) ?_)
    | ((with_reducible refine WL.isN_extract ?_); first | refine WL.yld rfl (Yld.pure rfl nrmQ) ?_)
    | ((with_reducible refine WL.isN_load ?_); first | refine WL.yld rfl (Yld.load rfl rfl rfl rfl cellQ) ?_ | refine WL.yld rfl (Yld.loadAgg rfl rfl rfl rfl rfl aggQ) ?_)
    | ((with_reducible refine WL.isN_iaddr ?_); first | refine WL.yld rfl (Yld.indexS 0 rfl rfl rfl rfl rfl rfl (by omega)) ?_ | refine WL.yld rfl (Yld.indexS 1 rfl rfl rfl rfl rfl rfl (by omega)) ?_ | refine WL.yld rfl (Yld.indexS 2 rfl rfl rfl rfl rfl rfl (by omega)) ?_ | refine WL.yld rfl (Yld.indexS _ rfl rfl rfl rfl rfl rfl (by omega)) ?_ | refine WL.yld rfl (Yld.indexA 0 rfl rfl rfl rfl rfl rfl (by omega)) ?_ | refine WL.yld rfl (Yld.indexA 1 rfl rfl rfl rfl rfl rfl (by omega)) ?_ | refine WL.yld rfl (Yld.indexA _ rfl rfl rfl rfl rfl rfl (by omega)) ?_)
    | ((with_reducible refine WL.isN_pick ?_); first | refine WL.yld rfl (Yld.pickT rfl rfl rfl) ?_ | refine WL.yld rfl (Yld.pickF rfl rfl rfl) ?_ | refine WL.yld rfl (Yld.pickTh rfl rfl gdQ rfl) ?_ | refine WL.yld rfl (Yld.pickFh rfl rfl gdQ rfl) ?_ | refine WL.yld rfl (Yld.pickB rfl rfl rfl rfl) ?_)
    | ((with_reducible refine WL.isN_call ?_); first | refine WL.yld rfl (Yld.lenSlice rfl rfl rfl) ?_ | refine WL.yld rfl (Yld.lenStr rfl rfl rfl) ?_)
    | ((with_reducible refine WL.isT ?_); first | refine WL.skipT rfl rfl rfl rfl gdQ ?_ | refine WL.skipU rfl rfl rfl rfl ?_ | refine WL.runT rfl rfl rfl gdQ ?_ | (refine WL.cases rfl rfl rfl (fun hg => ?_) (fun hg => ?_) <;> (try first | (with_reducible replace hg := of_decide_eq_true hg) | (with_reducible replace hg := of_decide_eq_false hg) | (with_reducible replace hg := eqT hg) | (with_reducible replace hg := eqF hg) | (with_reducible replace hg := neT hg) | (with_reducible replace hg := neF hg) | (with_reducible replace hg := noT hg) | (with_reducible replace hg := noF hg)) <;> (try (exfalso; omega))))
    | ((with_reducible refine WL.isF ?_); first | refine WL.skipF rfl rfl rfl rfl gdQ ?_ | refine WL.skipU rfl rfl rfl rfl ?_ | refine WL.runF rfl rfl rfl gdQ ?_ | (refine WL.cases rfl rfl rfl (fun hg => ?_) (fun hg => ?_) <;> (try first | (with_reducible replace hg := of_decide_eq_true hg) | (with_reducible replace hg := of_decide_eq_false hg) | (with_reducible replace hg := eqT hg) | (with_reducible replace hg := eqF hg) | (with_reducible replace hg := neT hg) | (with_reducible replace hg := neF hg) | (with_reducible replace hg := noT hg) | (with_reducible replace hg := noF hg)) <;> (try (exfalso; omega))))
    | ((with_reducible refine WL.isN_box ?_); first | refine WL.step rfl (StepTo.boxA rfl rfl rfl rfl (fun _ => ?_)) | refine WL.step rfl (StepTo.box1 rfl rfl rfl rfl rfl (fun _ => ?_)))
    | ((with_reducible refine WL.isN_alloc ?_); first | refine WL.step rfl (StepTo.allocA rfl rfl rfl rfl (fun _ => ?_)) | refine WL.step rfl (StepTo.alloc1 rfl rfl rfl rfl rfl (fun _ => ?_)))
    | ((with_reducible refine WL.isN_store ?_); first | refine WL.step rfl (StepTo.store1 0 rfl rfl rfl rfl rfl rfl rfl overQ setQ ?_) | refine WL.step rfl (StepTo.storeA 0 rfl rfl rfl rfl rfl rfl rfl rfl overQ setQ ?_) | refine WL.step rfl (StepTo.storeRow 0 rfl rfl rfl rfl rfl rfl rfl rfl (by omega) setQ ?_) | refine WL.step rfl (StepTo.store1 1 rfl rfl rfl rfl rfl rfl rfl overQ setQ ?_) | refine WL.step rfl (StepTo.storeA 1 rfl rfl rfl rfl rfl rfl rfl rfl overQ setQ ?_) | refine WL.step rfl (StepTo.storeRow 1 rfl rfl rfl rfl rfl rfl rfl rfl (by omega) setQ ?_) | refine WL.step rfl (StepTo.store1 2 rfl rfl rfl rfl rfl rfl rfl overQ setQ ?_) | refine WL.step rfl (StepTo.storeA 2 rfl rfl rfl rfl rfl rfl rfl rfl overQ setQ ?_) | refine WL.step rfl (StepTo.storeRow 2 rfl rfl rfl rfl rfl rfl rfl rfl (by omega) setQ ?_) | refine WL.step rfl (StepTo.store1 3 rfl rfl rfl rfl rfl rfl rfl overQ setQ ?_) | refine WL.step rfl (StepTo.storeA 3 rfl rfl rfl rfl rfl rfl rfl rfl overQ setQ ?_) | refine WL.step rfl (StepTo.storeRow 3 rfl rfl rfl rfl rfl rfl rfl rfl (by omega) setQ ?_) | refine WL.step rfl (StepTo.store1 4 rfl rfl rfl rfl rfl rfl rfl overQ setQ ?_) | refine WL.step rfl (StepTo.storeA 4 rfl rfl rfl rfl rfl rfl rfl rfl overQ setQ ?_) | refine WL.step rfl (StepTo.storeRow 4 rfl rfl rfl rfl rfl rfl rfl rfl (by omega) setQ ?_) | refine WL.step rfl (StepTo.store1 5 rfl rfl rfl rfl rfl rfl rfl overQ setQ ?_) | refine WL.step rfl (StepTo.storeA 5 rfl rfl rfl rfl rfl rfl rfl rfl overQ setQ ?_) | refine WL.step rfl (StepTo.storeRow 5 rfl rfl rfl rfl rfl rfl rfl rfl (by omega) setQ ?_) | refine WL.step rfl (StepTo.store1 6 rfl rfl rfl rfl rfl rfl rfl overQ setQ ?_) | refine WL.step rfl (StepTo.storeA 6 rfl rfl rfl rfl rfl rfl rfl rfl overQ setQ ?_) | refine WL.step rfl (StepTo.storeRow 6 rfl rfl rfl rfl rfl rfl rfl rfl (by omega) setQ ?_) | refine WL.step rfl (StepTo.store1 7 rfl rfl rfl rfl rfl rfl rfl overQ setQ ?_) | refine WL.step rfl (StepTo.storeA 7 rfl rfl rfl rfl rfl rfl rfl rfl overQ setQ ?_) | refine WL.step rfl (StepTo.storeRow 7 rfl rfl rfl rfl rfl rfl rfl rfl (by omega) setQ ?_) | refine WL.step rfl (StepTo.store1 8 rfl rfl rfl rfl rfl rfl rfl overQ setQ ?_) | refine WL.step rfl (StepTo.storeA 8 rfl rfl rfl rfl rfl rfl rfl rfl overQ setQ ?_) | refine WL.step rfl (StepTo.storeRow 8 rfl rfl rfl rfl rfl rfl rfl rfl (by omega) setQ ?_) | refine WL.step rfl (StepTo.store1 9 rfl rfl rfl rfl rfl rfl rfl overQ setQ ?_) | refine WL.step rfl (StepTo.storeA 9 rfl rfl rfl rfl rfl rfl rfl rfl overQ setQ ?_) | refine WL.step rfl (StepTo.storeRow 9 rfl rfl rfl rfl rfl rfl rfl rfl (by omega) setQ ?_) | refine WL.step rfl (StepTo.store1 10 rfl rfl rfl rfl rfl rfl rfl overQ setQ ?_) | refine WL.step rfl (StepTo.storeA 10 rfl rfl rfl rfl rfl rfl rfl rfl overQ setQ ?_) | refine WL.step rfl (StepTo.storeRow 10 rfl rfl rfl rfl rfl rfl rfl rfl (by omega) setQ ?_) | refine WL.step rfl (StepTo.store1 11 rfl rfl rfl rfl rfl rfl rfl overQ setQ ?_) | refine WL.step rfl (StepTo.storeA 11 rfl rfl rfl rfl rfl rfl rfl rfl overQ setQ ?_) | refine WL.step rfl (StepTo.storeRow 11 rfl rfl rfl rfl rfl rfl rfl rfl (by omega) setQ ?_))
    | with_reducible refine WC.block ?_
    | with_reducible refine WC.scope ?_
    | with_reducible refine WC.label ?_
    | with_reducible refine WQ.ngN ?_
    | with_reducible refine WQ.ngR ?_
    | with_reducible refine WQ.ngX ?_
    | with_reducible refine WC.skip ?_
    | with_reducible refine WC.ret ?_
    | with_reducible refine WC.exit ?_
    | with_reducible refine WQ.thenR ?_
    | with_reducible refine WQ.thenX ?_
    | with_reducible refine WQ.blkN ?_
    | with_reducible refine WQ.blkR ?_
    | ((with_reducible refine WQ.blkX ?_ ?_); focus rfl)
    | ((with_reducible refine WQ.blkY ?_ ?_); focus rfl)
    | refine WC.condT rfl ?_
    | refine WC.condF rfl ?_
    | refine WC.condTh rfl gdQ ?_
    | refine WC.condFh rfl gdQ ?_
    | (refine WC.cond rfl (fun hc => ?_) (fun hc => ?_) <;> (try first | (with_reducible replace hc := of_decide_eq_true hc) | (with_reducible replace hc := of_decide_eq_false hc) | (with_reducible replace hc := eqT hc) | (with_reducible replace hc := eqF hc) | (with_reducible replace hc := neT hc) | (with_reducible replace hc := neF hc) | (with_reducible replace hc := noT hc) | (with_reducible replace hc := noF hc)) <;> (try (exfalso; omega)))
    | exact WQ.body (Reads.tmp rfl rfl) (fun _ hw' => ⟨ret_bool gdQ, hw'.ext.below⟩))
  rename_i bt
  obtain ⟨d1, d2, d3, d4⟩ := drop_sums path ps
  have hB0 := Back.new ps path to
  have hml : (ps.map (drop1 path)).length = ps.length := List.length_map _
  have hsD : Small (ps.map (drop1 path)) := hB0.small hs
  have hdl : (dropT path ps).length = (ps.filter fun p => outB p path).length := List.length_map _
  have s1 := lostN_sum (ps.map (drop1 path))
  have s2 := lostN_sum ps
  have s3 := lostN_le ps
  have s4 := lostN_le (ps.map (drop1 path))
  have u1 := underF_bounds (-1) ps hs
  have u2 := underF_bounds path ps hs
  have u3 := underF_bounds (-1) (ps.map (drop1 path)) hsD
  have u4 := underF_bounds to (ps.map (drop1 path)) hsD
  rw [hml] at u3 u4
  generalize hD : ps.map (drop1 path) = D at *
  refine WC.cut (fun τ H => τ = [(2, .int .i64 to), (3, .int .i64 now), (4, .pointer (some ⟨bs, 0, none⟩)), (11, .int .i64 (underF path ps)), (12, .int .i64 (lostN ps).length), (13, .pointer (some ⟨bt, 0, none⟩)), (14, .slice A4 (dropT path ps).length c4), (70, .bool (underF (-1) D != underF (-1) ps - underF path ps))] ∧
      H = [.box bt 25 [.int .u32 cum, .slice A3 ps.length c3], .vw A3 ps.length 7 (flat Pc.cs D), .row A4 (dropT path ps).length c4 22 1 (flat u32c (dropT path ps)), .box bs 25 [.int .u32 cum, .slice A ps.length c], .vw A ps.length 7 (flat Pc.cs ps)]) ?_ ?_
  refine WC.anyI [0, 5] (by kernel_rfl) ?_
  refine WA.take (idx := [0, 5]) 0 rfl (by kernel_rfl) (by kernel_rfl) (by kernel_rfl) rfl ⟨by decide, rfl⟩ (by first | exact Yld.load rfl rfl rfl rfl cellQ | exact Yld.loadAgg rfl rfl rfl rfl rfl aggQ) ?_
  refine WA.take (idx := [0, 5]) 1 rfl (by kernel_rfl) (by kernel_rfl) (by kernel_rfl) rfl ⟨by decide, rfl⟩ (Yld.pure rfl nrmQ) ?_
  refine WA.one 2 (by kernel_rfl) rfl rfl ?_
  refine StepTo.callV (v := .int .i64 (underF path D)) (us := [.agg #[.int .u32 cum, .slice A3 ps.length c3], .int .i64 path]) rfl rfl rfl rfl rfl (by kernel_rfl) (fun w hw => under_q cum A3 ps.length c3 D path w (hw.lst 1 Pc.cs_len (by omega) rfl) hsD (by omega)) ⟨⟨[0, 5], by decide, rfl⟩, ?_⟩
  refine WA.take (idx := [0, 5]) 3 rfl (by kernel_rfl) (by kernel_rfl) (by kernel_rfl) rfl ⟨by decide, rfl⟩ (by first | exact Yld.pure rfl nrmQ | exact Yld.rem rfl rfl rfl rfl (by omega) (by omega) | exact Yld.quo rfl rfl rfl rfl (by omega) (by omega) nrmQ | exact Yld.eqlB rfl rfl rfl rfl | exact Yld.neqB rfl rfl rfl rfl | exact Yld.eqlA 4 rfl rfl rfl (by kernel_rfl) (by kernel_rfl) rfl rfl | exact Yld.neqA 4 rfl rfl rfl (by kernel_rfl) (by kernel_rfl) rfl rfl | exact Yld.quoT rfl rfl rfl rfl (by omega) nrmQ) ?_
  refine WA.take (idx := [0, 5]) 4 rfl (by kernel_rfl) (by kernel_rfl) (by kernel_rfl) rfl ⟨by decide, rfl⟩ (Yld.pure rfl nrmQ) ?_
  first | refine WA.skip (idx := [0, 5]) 5 rfl (by kernel_rfl) (by kernel_rfl) (by kernel_rfl) rfl ⟨by decide, rfl⟩ rfl rfl rfl gdQ ?_ | refine WA.takeG (idx := [0, 5]) 5 rfl (by kernel_rfl) (by kernel_rfl) (by kernel_rfl) rfl ⟨by decide, rfl⟩ rfl rfl rfl gdQ (by first | exact Yld.load rfl rfl rfl rfl cellQ | exact Yld.loadAgg rfl rfl rfl rfl rfl aggQ) ?_
  first | refine WA.skip (idx := [0, 5]) 8 rfl (by kernel_rfl) (by kernel_rfl) (by kernel_rfl) rfl ⟨by decide, rfl⟩ rfl rfl rfl gdQ ?_ | refine WA.takeG (idx := [0, 5]) 8 rfl (by kernel_rfl) (by kernel_rfl) (by kernel_rfl) rfl ⟨by decide, rfl⟩ rfl rfl rfl gdQ (Yld.pure rfl nrmQ) ?_
  first | refine WA.skip (idx := [0, 5]) 9 rfl (by kernel_rfl) (by kernel_rfl) (by kernel_rfl) rfl ⟨by decide, rfl⟩ rfl rfl rfl gdQ ?_ | refine WA.takeG (idx := [0, 5]) 9 rfl (by kernel_rfl) (by kernel_rfl) (by kernel_rfl) rfl ⟨by decide, rfl⟩ rfl rfl rfl gdQ (Yld.pure rfl nrmQ) ?_
  first | refine WA.skip (idx := [0, 5]) 10 rfl (by kernel_rfl) (by kernel_rfl) (by kernel_rfl) rfl ⟨by decide, rfl⟩ rfl rfl rfl gdQ ?_ | refine WA.takeG (idx := [0, 5]) 10 rfl (by kernel_rfl) (by kernel_rfl) (by kernel_rfl) rfl ⟨by decide, rfl⟩ rfl rfl rfl gdQ (by first | exact Yld.lenSlice rfl rfl rfl | exact Yld.lenStr rfl rfl rfl) ?_
  first | refine WA.skip (idx := [0, 5]) 11 rfl (by kernel_rfl) (by kernel_rfl) (by kernel_rfl) rfl ⟨by decide, rfl⟩ rfl rfl rfl gdQ ?_ | refine WA.takeG (idx := [0, 5]) 11 rfl (by kernel_rfl) (by kernel_rfl) (by kernel_rfl) rfl ⟨by decide, rfl⟩ rfl rfl rfl gdQ (by first | exact Yld.pure rfl nrmQ | exact Yld.rem rfl rfl rfl rfl (by omega) (by omega) | exact Yld.quo rfl rfl rfl rfl (by omega) (by omega) nrmQ | exact Yld.eqlB rfl rfl rfl rfl | exact Yld.neqB rfl rfl rfl rfl | exact Yld.eqlA 4 rfl rfl rfl (by kernel_rfl) (by kernel_rfl) rfl rfl | exact Yld.neqA 4 rfl rfl rfl (by kernel_rfl) (by kernel_rfl) rfl rfl | exact Yld.quoT rfl rfl rfl rfl (by omega) nrmQ) ?_
  refine WA.oneW 6 (by kernel_rfl) rfl (.inr ⟨_, _, _, _, _, rfl, rfl, rfl, rfl, gdQ⟩) ?_
  refine StepTo.callN [] (us := [.agg #[.int .u32 cum, .slice A3 ps.length c3]]) rfl rfl rfl rfl rfl (by kernel_rfl) (fun w hw => losses_w cum A3 ps.length c3 D w (hw.lst 1 Pc.cs_len (by omega) rfl) (by omega)) ?_
  rintro v N ⟨A5, c5, rfl, rfl⟩
  refine ⟨⟨[1, 6], by decide, rfl⟩, ?_⟩
  first | refine WA.skip (idx := [1, 6]) 7 rfl (by kernel_rfl) (by kernel_rfl) (by kernel_rfl) rfl ⟨by decide, rfl⟩ rfl rfl rfl gdQ ?_ | refine WA.takeG (idx := [1, 6]) 7 rfl (by kernel_rfl) (by kernel_rfl) (by kernel_rfl) rfl ⟨by decide, rfl⟩ rfl rfl rfl gdQ (by first | exact Yld.lenSlice rfl rfl rfl | exact Yld.lenStr rfl rfl rfl) ?_
  first | refine WA.skip (idx := [1, 6]) 12 rfl (by kernel_rfl) (by kernel_rfl) (by kernel_rfl) rfl ⟨by decide, rfl⟩ rfl rfl rfl gdQ ?_ | refine WA.takeG (idx := [1, 6]) 12 rfl (by kernel_rfl) (by kernel_rfl) (by kernel_rfl) rfl ⟨by decide, rfl⟩ rfl rfl rfl gdQ (by first | exact Yld.pure rfl nrmQ | exact Yld.rem rfl rfl rfl rfl (by omega) (by omega) | exact Yld.quo rfl rfl rfl rfl (by omega) (by omega) nrmQ | exact Yld.eqlB rfl rfl rfl rfl | exact Yld.neqB rfl rfl rfl rfl | exact Yld.eqlA 4 rfl rfl rfl (by kernel_rfl) (by kernel_rfl) rfl rfl | exact Yld.neqA 4 rfl rfl rfl (by kernel_rfl) (by kernel_rfl) rfl rfl | exact Yld.quoT rfl rfl rfl rfl (by omega) nrmQ) ?_
  refine WA.take (idx := [1, 6]) 13 rfl (by kernel_rfl) (by kernel_rfl) (by kernel_rfl) rfl ⟨by decide, rfl⟩ (by first | exact Yld.pickT rfl rfl rfl | exact Yld.pickF rfl rfl rfl | exact Yld.pickTh rfl rfl gdQ rfl | exact Yld.pickFh rfl rfl gdQ rfl | exact Yld.pickB rfl rfl rfl rfl) ?_
  refine WA.take (idx := [1, 6]) 14 rfl (by kernel_rfl) (by kernel_rfl) (by kernel_rfl) rfl ⟨by decide, rfl⟩ (Yld.pure rfl nrmQ) ?_
  first | refine WA.skip (idx := [1, 6]) 15 rfl (by kernel_rfl) (by kernel_rfl) (by kernel_rfl) rfl ⟨by decide, rfl⟩ rfl rfl rfl gdQ ?_ | refine WA.takeG (idx := [1, 6]) 15 rfl (by kernel_rfl) (by kernel_rfl) (by kernel_rfl) rfl ⟨by decide, rfl⟩ rfl rfl rfl gdQ (by first | exact Yld.load rfl rfl rfl rfl cellQ | exact Yld.loadAgg rfl rfl rfl rfl rfl aggQ) ?_
  first | refine WA.skip (idx := [1, 6]) 17 rfl (by kernel_rfl) (by kernel_rfl) (by kernel_rfl) rfl ⟨by decide, rfl⟩ rfl rfl rfl gdQ ?_ | refine WA.takeG (idx := [1, 6]) 17 rfl (by kernel_rfl) (by kernel_rfl) (by kernel_rfl) rfl ⟨by decide, rfl⟩ rfl rfl rfl gdQ (by first | exact Yld.load rfl rfl rfl rfl cellQ | exact Yld.loadAgg rfl rfl rfl rfl rfl aggQ) ?_
  first | refine WA.skip (idx := [1, 6]) 19 rfl (by kernel_rfl) (by kernel_rfl) (by kernel_rfl) rfl ⟨by decide, rfl⟩ rfl rfl rfl gdQ ?_ | refine WA.takeG (idx := [1, 6]) 19 rfl (by kernel_rfl) (by kernel_rfl) (by kernel_rfl) rfl ⟨by decide, rfl⟩ rfl rfl rfl gdQ (Yld.pure rfl nrmQ) ?_
  refine WA.oneW 16 (by kernel_rfl) rfl (.inr ⟨_, _, _, _, _, rfl, rfl, rfl, rfl, gdQ⟩) ?_
  refine StepTo.callV (v := .int .i64 (underF (-1) D)) (us := [.agg #[.int .u32 cum, .slice A3 ps.length c3], .int .i64 (-1)]) rfl rfl rfl rfl rfl (by kernel_rfl) (fun w hw => under_q cum A3 ps.length c3 D (-1) w (hw.lst 2 Pc.cs_len (by omega) rfl) hsD (by omega)) ⟨⟨[1, 6], by decide, rfl⟩, ?_⟩
  refine WA.oneW 18 (by kernel_rfl) rfl (.inr ⟨_, _, _, _, _, rfl, rfl, rfl, rfl, gdQ⟩) ?_
  refine StepTo.callV (v := .int .i64 (underF (-1) ps)) (us := [.agg #[.int .u32 cum, .slice A ps.length c], .int .i64 (-1)]) rfl rfl rfl rfl rfl (by kernel_rfl) (fun w hw => under_q cum A ps.length c ps (-1) w (hw.lst 7 Pc.cs_len (by omega) rfl) hs (by omega)) ⟨⟨[1, 6], by decide, rfl⟩, ?_⟩
  first | refine WA.skip (idx := [1, 6]) 20 rfl (by kernel_rfl) (by kernel_rfl) (by kernel_rfl) rfl ⟨by decide, rfl⟩ rfl rfl rfl gdQ ?_ | refine WA.takeG (idx := [1, 6]) 20 rfl (by kernel_rfl) (by kernel_rfl) (by kernel_rfl) rfl ⟨by decide, rfl⟩ rfl rfl rfl gdQ (by first | exact Yld.pure rfl nrmQ | exact Yld.rem rfl rfl rfl rfl (by omega) (by omega) | exact Yld.quo rfl rfl rfl rfl (by omega) (by omega) nrmQ | exact Yld.eqlB rfl rfl rfl rfl | exact Yld.neqB rfl rfl rfl rfl | exact Yld.eqlA 4 rfl rfl rfl (by kernel_rfl) (by kernel_rfl) rfl rfl | exact Yld.neqA 4 rfl rfl rfl (by kernel_rfl) (by kernel_rfl) rfl rfl | exact Yld.quoT rfl rfl rfl rfl (by omega) nrmQ) ?_
  first | refine WA.skip (idx := [1, 6]) 21 rfl (by kernel_rfl) (by kernel_rfl) (by kernel_rfl) rfl ⟨by decide, rfl⟩ rfl rfl rfl gdQ ?_ | refine WA.takeG (idx := [1, 6]) 21 rfl (by kernel_rfl) (by kernel_rfl) (by kernel_rfl) rfl ⟨by decide, rfl⟩ rfl rfl rfl gdQ (by first | exact Yld.pure rfl nrmQ | exact Yld.rem rfl rfl rfl rfl (by omega) (by omega) | exact Yld.quo rfl rfl rfl rfl (by omega) (by omega) nrmQ | exact Yld.eqlB rfl rfl rfl rfl | exact Yld.neqB rfl rfl rfl rfl | exact Yld.eqlA 4 rfl rfl rfl (by kernel_rfl) (by kernel_rfl) rfl rfl | exact Yld.neqA 4 rfl rfl rfl (by kernel_rfl) (by kernel_rfl) rfl rfl | exact Yld.quoT rfl rfl rfl rfl (by omega) nrmQ) ?_
  refine WA.take (idx := [1, 6]) 22 rfl (by kernel_rfl) (by kernel_rfl) (by kernel_rfl) rfl ⟨by decide, rfl⟩ (by first | exact Yld.pickT rfl rfl rfl | exact Yld.pickF rfl rfl rfl | exact Yld.pickTh rfl rfl gdQ rfl | exact Yld.pickFh rfl rfl gdQ rfl | exact Yld.pickB rfl rfl rfl rfl) ?_
  refine WA.done (by kernel_rfl) ?_
  exact WQ.thenN (WQ.met _ _ [1, 2, 3, 6, 7] (by repeat (first | exact Sub.nil | refine Sub.cons rfl ?_ | refine Sub.consE rfl (int_eq (by omega)) ?_)) ⟨by decide, rfl⟩ ⟨rfl, rfl⟩)
  rintro τ H ⟨rfl, rfl⟩
  refine WC.rowVw 2 rfl (by omega) ?_
  repeat' (first
    | with_reducible refine WL.nil ?_
    | with_reducible refine WQ.thenN ?_
    | with_reducible refine WQ.code ?_
    | with_reducible refine WC.seq ?_
    | with_reducible refine WC.region ?_
    | ((with_reducible refine WL.isN_move ?_); first | refine WL.yld rfl (Yld.pure rfl nrmQ) ?_)
    | ((with_reducible refine WL.isN_assign ?_); first | refine WL.yld rfl (Yld.pure rfl nrmQ) ?_)
    | ((with_reducible refine WL.isN_bin ?_); first | refine WL.yld rfl (Yld.pure rfl nrmQ) ?_ | refine WL.yld rfl (Yld.rem rfl rfl rfl rfl (by omega) (by omega)) ?_ | refine WL.yld rfl (Yld.quo rfl rfl rfl rfl (by omega) (by omega) nrmQ) ?_ | refine WL.yld rfl (Yld.eqlB rfl rfl rfl rfl) ?_ | refine WL.yld rfl (Yld.neqB rfl rfl rfl rfl) ?_ | refine WL.yld rfl (Yld.eqlA 4 rfl rfl rfl (by kernel_rfl) (by kernel_rfl) rfl rfl) ?_ | refine WL.yld rfl (Yld.neqA 4 rfl rfl rfl (by kernel_rfl) (by kernel_rfl) rfl rfl) ?_ | refine WL.yld rfl (Yld.quoT rfl rfl rfl rfl (by omega) nrmQ) ?_)
    | ((with_reducible refine WL.isN_un ?_); first | refine WL.yld rfl (Yld.pure rfl nrmQ) ?_)
    | ((with_reducible refine WL.isN_extract ?_); first | refine WL.yld rfl (Yld.pure rfl nrmQ) ?_)
    | ((with_reducible refine WL.isN_load ?_); first | refine WL.yld rfl (Yld.load rfl rfl rfl rfl cellQ) ?_ | refine WL.yld rfl (Yld.loadAgg rfl rfl rfl rfl rfl aggQ) ?_)
    | ((with_reducible refine WL.isN_iaddr ?_); first | refine WL.yld rfl (Yld.indexS 0 rfl rfl rfl rfl rfl rfl (by omega)) ?_ | refine WL.yld rfl (Yld.indexS 1 rfl rfl rfl rfl rfl rfl (by omega)) ?_ | refine WL.yld rfl (Yld.indexS 2 rfl rfl rfl rfl rfl rfl (by omega)) ?_ | refine WL.yld rfl (Yld.indexS _ rfl rfl rfl rfl rfl rfl (by omega)) ?_ | refine WL.yld rfl (Yld.indexA 0 rfl rfl rfl rfl rfl rfl (by omega)) ?_ | refine WL.yld rfl (Yld.indexA 1 rfl rfl rfl rfl rfl rfl (by omega)) ?_ | refine WL.yld rfl (Yld.indexA _ rfl rfl rfl rfl rfl rfl (by omega)) ?_)
    | ((with_reducible refine WL.isN_pick ?_); first | refine WL.yld rfl (Yld.pickT rfl rfl rfl) ?_ | refine WL.yld rfl (Yld.pickF rfl rfl rfl) ?_ | refine WL.yld rfl (Yld.pickTh rfl rfl gdQ rfl) ?_ | refine WL.yld rfl (Yld.pickFh rfl rfl gdQ rfl) ?_ | refine WL.yld rfl (Yld.pickB rfl rfl rfl rfl) ?_)
    | ((with_reducible refine WL.isN_call ?_); first | refine WL.step rfl (StepTo.callV (v := .int .i64 (underF to D)) (us := [.agg #[.int .u32 cum, .slice A3 ps.length c3], .int .i64 to]) rfl rfl rfl rfl rfl (by kernel_rfl) (fun w hw => under_q cum A3 ps.length c3 D to w (hw.lst 1 Pc.cs_len (by omega) rfl) hsD (by omega)) ?_) | refine WL.yld rfl (Yld.lenSlice rfl rfl rfl) ?_ | refine WL.yld rfl (Yld.lenStr rfl rfl rfl) ?_)
    | ((with_reducible refine WL.isT ?_); first | refine WL.skipT rfl rfl rfl rfl gdQ ?_ | refine WL.skipU rfl rfl rfl rfl ?_ | refine WL.runT rfl rfl rfl gdQ ?_ | (refine WL.cases rfl rfl rfl (fun hg => ?_) (fun hg => ?_) <;> (try first | (with_reducible replace hg := of_decide_eq_true hg) | (with_reducible replace hg := of_decide_eq_false hg) | (with_reducible replace hg := eqT hg) | (with_reducible replace hg := eqF hg) | (with_reducible replace hg := neT hg) | (with_reducible replace hg := neF hg) | (with_reducible replace hg := noT hg) | (with_reducible replace hg := noF hg)) <;> (try (exfalso; omega))))
    | ((with_reducible refine WL.isF ?_); first | refine WL.skipF rfl rfl rfl rfl gdQ ?_ | refine WL.skipU rfl rfl rfl rfl ?_ | refine WL.runF rfl rfl rfl gdQ ?_ | (refine WL.cases rfl rfl rfl (fun hg => ?_) (fun hg => ?_) <;> (try first | (with_reducible replace hg := of_decide_eq_true hg) | (with_reducible replace hg := of_decide_eq_false hg) | (with_reducible replace hg := eqT hg) | (with_reducible replace hg := eqF hg) | (with_reducible replace hg := neT hg) | (with_reducible replace hg := neF hg) | (with_reducible replace hg := noT hg) | (with_reducible replace hg := noF hg)) <;> (try (exfalso; omega))))
    | ((with_reducible refine WL.isN_box ?_); first | refine WL.step rfl (StepTo.boxA rfl rfl rfl rfl (fun _ => ?_)) | refine WL.step rfl (StepTo.box1 rfl rfl rfl rfl rfl (fun _ => ?_)))
    | ((with_reducible refine WL.isN_alloc ?_); first | refine WL.step rfl (StepTo.allocA rfl rfl rfl rfl (fun _ => ?_)) | refine WL.step rfl (StepTo.alloc1 rfl rfl rfl rfl rfl (fun _ => ?_)))
    | ((with_reducible refine WL.isN_store ?_); first | refine WL.step rfl (StepTo.store1 0 rfl rfl rfl rfl rfl rfl rfl overQ setQ ?_) | refine WL.step rfl (StepTo.storeA 0 rfl rfl rfl rfl rfl rfl rfl rfl overQ setQ ?_) | refine WL.step rfl (StepTo.storeRow 0 rfl rfl rfl rfl rfl rfl rfl rfl (by omega) setQ ?_) | refine WL.step rfl (StepTo.store1 1 rfl rfl rfl rfl rfl rfl rfl overQ setQ ?_) | refine WL.step rfl (StepTo.storeA 1 rfl rfl rfl rfl rfl rfl rfl rfl overQ setQ ?_) | refine WL.step rfl (StepTo.storeRow 1 rfl rfl rfl rfl rfl rfl rfl rfl (by omega) setQ ?_) | refine WL.step rfl (StepTo.store1 2 rfl rfl rfl rfl rfl rfl rfl overQ setQ ?_) | refine WL.step rfl (StepTo.storeA 2 rfl rfl rfl rfl rfl rfl rfl rfl overQ setQ ?_) | refine WL.step rfl (StepTo.storeRow 2 rfl rfl rfl rfl rfl rfl rfl rfl (by omega) setQ ?_) | refine WL.step rfl (StepTo.store1 3 rfl rfl rfl rfl rfl rfl rfl overQ setQ ?_) | refine WL.step rfl (StepTo.storeA 3 rfl rfl rfl rfl rfl rfl rfl rfl overQ setQ ?_) | refine WL.step rfl (StepTo.storeRow 3 rfl rfl rfl rfl rfl rfl rfl rfl (by omega) setQ ?_) | refine WL.step rfl (StepTo.store1 4 rfl rfl rfl rfl rfl rfl rfl overQ setQ ?_) | refine WL.step rfl (StepTo.storeA 4 rfl rfl rfl rfl rfl rfl rfl rfl overQ setQ ?_) | refine WL.step rfl (StepTo.storeRow 4 rfl rfl rfl rfl rfl rfl rfl rfl (by omega) setQ ?_) | refine WL.step rfl (StepTo.store1 5 rfl rfl rfl rfl rfl rfl rfl overQ setQ ?_) | refine WL.step rfl (StepTo.storeA 5 rfl rfl rfl rfl rfl rfl rfl rfl overQ setQ ?_) | refine WL.step rfl (StepTo.storeRow 5 rfl rfl rfl rfl rfl rfl rfl rfl (by omega) setQ ?_) | refine WL.step rfl (StepTo.store1 6 rfl rfl rfl rfl rfl rfl rfl overQ setQ ?_) | refine WL.step rfl (StepTo.storeA 6 rfl rfl rfl rfl rfl rfl rfl rfl overQ setQ ?_) | refine WL.step rfl (StepTo.storeRow 6 rfl rfl rfl rfl rfl rfl rfl rfl (by omega) setQ ?_) | refine WL.step rfl (StepTo.store1 7 rfl rfl rfl rfl rfl rfl rfl overQ setQ ?_) | refine WL.step rfl (StepTo.storeA 7 rfl rfl rfl rfl rfl rfl rfl rfl overQ setQ ?_) | refine WL.step rfl (StepTo.storeRow 7 rfl rfl rfl rfl rfl rfl rfl rfl (by omega) setQ ?_) | refine WL.step rfl (StepTo.store1 8 rfl rfl rfl rfl rfl rfl rfl overQ setQ ?_) | refine WL.step rfl (StepTo.storeA 8 rfl rfl rfl rfl rfl rfl rfl rfl overQ setQ ?_) | refine WL.step rfl (StepTo.storeRow 8 rfl rfl rfl rfl rfl rfl rfl rfl (by omega) setQ ?_) | refine WL.step rfl (StepTo.store1 9 rfl rfl rfl rfl rfl rfl rfl overQ setQ ?_) | refine WL.step rfl (StepTo.storeA 9 rfl rfl rfl rfl rfl rfl rfl rfl overQ setQ ?_) | refine WL.step rfl (StepTo.storeRow 9 rfl rfl rfl rfl rfl rfl rfl rfl (by omega) setQ ?_) | refine WL.step rfl (StepTo.store1 10 rfl rfl rfl rfl rfl rfl rfl overQ setQ ?_) | refine WL.step rfl (StepTo.storeA 10 rfl rfl rfl rfl rfl rfl rfl rfl overQ setQ ?_) | refine WL.step rfl (StepTo.storeRow 10 rfl rfl rfl rfl rfl rfl rfl rfl (by omega) setQ ?_) | refine WL.step rfl (StepTo.store1 11 rfl rfl rfl rfl rfl rfl rfl overQ setQ ?_) | refine WL.step rfl (StepTo.storeA 11 rfl rfl rfl rfl rfl rfl rfl rfl overQ setQ ?_) | refine WL.step rfl (StepTo.storeRow 11 rfl rfl rfl rfl rfl rfl rfl rfl (by omega) setQ ?_))
    | with_reducible refine WC.block ?_
    | with_reducible refine WC.scope ?_
    | with_reducible refine WC.label ?_
    | with_reducible refine WQ.ngN ?_
    | with_reducible refine WQ.ngR ?_
    | with_reducible refine WQ.ngX ?_
    | with_reducible refine WC.skip ?_
    | with_reducible refine WC.ret ?_
    | with_reducible refine WC.exit ?_
    | with_reducible refine WQ.thenR ?_
    | with_reducible refine WQ.thenX ?_
    | with_reducible refine WQ.blkN ?_
    | with_reducible refine WQ.blkR ?_
    | ((with_reducible refine WQ.blkX ?_ ?_); focus rfl)
    | ((with_reducible refine WQ.blkY ?_ ?_); focus rfl)
    | refine WC.condT rfl ?_
    | refine WC.condF rfl ?_
    | refine WC.condTh rfl gdQ ?_
    | refine WC.condFh rfl gdQ ?_
    | (refine WC.cond rfl (fun hc => ?_) (fun hc => ?_) <;> (try first | (with_reducible replace hc := of_decide_eq_true hc) | (with_reducible replace hc := of_decide_eq_false hc) | (with_reducible replace hc := eqT hc) | (with_reducible replace hc := eqF hc) | (with_reducible replace hc := neT hc) | (with_reducible replace hc := neF hc) | (with_reducible replace hc := noT hc) | (with_reducible replace hc := noF hc)) <;> (try (exfalso; omega))))
  have hosl : (ps.filter fun p => outB p path).length ≤ ps.length := List.length_filter_le _ _
  have hu := hR.uniq
  refine WC.loop (fun mm τ H => ∃ (i : Nat) (ts : List Pc) (At : Option Addr) (ct : Nat), i ≤ (dropT path ps).length ∧ mm = (dropT path ps).length - i ∧ Back ps path to i ts ∧ okA At ps.length ∧
      τ = [(2, .int .i64 to), (3, .int .i64 now), (4, .pointer (some ⟨bs, 0, none⟩)), (11, .int .i64 (underF path ps)), (12, .int .i64 (lostN ps).length), (13, .pointer (some ⟨bt, 0, none⟩)), (14, .slice A4 (dropT path ps).length c4), (15, .int .i64 (underF to D)), (16, .int .i64 i)] ∧
      H = [.box bt 25 [.int .u32 cum, .slice At ps.length ct], .vw At ps.length 7 (flat Pc.cs ts), .vw A4 (dropT path ps).length 1 (flat u32c (dropT path ps)), .box bs 25 [.int .u32 cum, .slice A ps.length c], .vw A ps.length 7 (flat Pc.cs ps)])
    (dropT path ps).length _ _ [0, 1, 2, 3, 4] ?_ ?_ ⟨0, D, A3, c3, by omega, rfl, hB0, hok3, rfl, rfl⟩ ?_
  · exact (by repeat (first | exact Sub.nil | refine Sub.cons rfl ?_ | refine Sub.consE rfl (int_eq (by omega)) ?_))
  · exact ⟨by decide, rfl⟩
  rintro mm τ H ⟨i, ts, At, ct, hi, rfl, hB, hokt, rfl, rfl⟩
  have htl := hB.len
  have hst := hB.small hs
  by_cases hlt : i < (dropT path ps).length
  · obtain ⟨p, hp⟩ : ∃ p, (ps.filter fun p => outB p path)[i]? = some p := ⟨_, List.getElem?_eq_getElem (by omega)⟩
    have hpt : (dropT path ps)[i]? = some p.tsn := by unfold dropT; rw [List.getElem?_map, hp]; rfl
    have hpp : PartAt (flat u32c (dropT path ps)) (i * 1) [.int .u32 p.tsn] := PartAt.flat (ic_len .u32) hpt
    obtain ⟨j, q, hfind, hq, hB', hnone⟩ := hB.step (now := now) hu (by omega) hp
    have htl' := hB'.len
    refine WC.vwAt 2 rfl (by omega) fun bl ol hA4 => ?_
    subst hA4
    repeat' (first
    | with_reducible refine WL.nil ?_
    | with_reducible refine WQ.thenN ?_
    | with_reducible refine WQ.code ?_
    | with_reducible refine WC.seq ?_
    | with_reducible refine WC.region ?_
    | ((with_reducible refine WL.isN_move ?_); first | refine WL.yld rfl (Yld.pure rfl nrmQ) ?_)
    | ((with_reducible refine WL.isN_assign ?_); first | refine WL.yld rfl (Yld.pure rfl nrmQ) ?_)
    | ((with_reducible refine WL.isN_bin ?_); first | refine WL.yld rfl (Yld.pure rfl nrmQ) ?_ | refine WL.yld rfl (Yld.rem rfl rfl rfl rfl (by omega) (by omega)) ?_ | refine WL.yld rfl (Yld.quo rfl rfl rfl rfl (by omega) (by omega) nrmQ) ?_ | refine WL.yld rfl (Yld.eqlB rfl rfl rfl rfl) ?_ | refine WL.yld rfl (Yld.neqB rfl rfl rfl rfl) ?_ | refine WL.yld rfl (Yld.eqlA 4 rfl rfl rfl (by kernel_rfl) (by kernel_rfl) rfl rfl) ?_ | refine WL.yld rfl (Yld.neqA 4 rfl rfl rfl (by kernel_rfl) (by kernel_rfl) rfl rfl) ?_ | refine WL.yld rfl (Yld.quoT rfl rfl rfl rfl (by omega) nrmQ) ?_)
    | ((with_reducible refine WL.isN_un ?_); first | refine WL.yld rfl (Yld.pure rfl nrmQ) ?_)
    | ((with_reducible refine WL.isN_extract ?_); first | refine WL.yld rfl (Yld.pure rfl nrmQ) ?_)
    | ((with_reducible refine WL.isN_load ?_); first | refine WL.yld rfl (Yld.load rfl rfl rfl rfl cellQ) ?_ | refine WL.yld rfl (Yld.loadAgg rfl rfl rfl rfl rfl aggQ) ?_)
    | ((with_reducible refine WL.isN_iaddr ?_); first | refine WL.yld rfl (Yld.indexS 0 rfl rfl rfl rfl rfl rfl (by omega)) ?_ | refine WL.yld rfl (Yld.indexS 1 rfl rfl rfl rfl rfl rfl (by omega)) ?_ | refine WL.yld rfl (Yld.indexS 2 rfl rfl rfl rfl rfl rfl (by omega)) ?_ | refine WL.yld rfl (Yld.indexS _ rfl rfl rfl rfl rfl rfl (by omega)) ?_ | refine WL.yld rfl (Yld.indexA 0 rfl rfl rfl rfl rfl rfl (by omega)) ?_ | refine WL.yld rfl (Yld.indexA 1 rfl rfl rfl rfl rfl rfl (by omega)) ?_ | refine WL.yld rfl (Yld.indexA _ rfl rfl rfl rfl rfl rfl (by omega)) ?_)
    | ((with_reducible refine WL.isN_pick ?_); first | refine WL.yld rfl (Yld.pickT rfl rfl rfl) ?_ | refine WL.yld rfl (Yld.pickF rfl rfl rfl) ?_ | refine WL.yld rfl (Yld.pickTh rfl rfl gdQ rfl) ?_ | refine WL.yld rfl (Yld.pickFh rfl rfl gdQ rfl) ?_ | refine WL.yld rfl (Yld.pickB rfl rfl rfl rfl) ?_)
    | ((with_reducible refine WL.isN_call ?_); first | refine WL.yld rfl (Yld.lenSlice rfl rfl rfl) ?_ | refine WL.yld rfl (Yld.lenStr rfl rfl rfl) ?_)
    | ((with_reducible refine WL.isT ?_); first | refine WL.skipT rfl rfl rfl rfl gdQ ?_ | refine WL.skipU rfl rfl rfl rfl ?_ | refine WL.runT rfl rfl rfl gdQ ?_ | (refine WL.cases rfl rfl rfl (fun hg => ?_) (fun hg => ?_) <;> (try first | (with_reducible replace hg := of_decide_eq_true hg) | (with_reducible replace hg := of_decide_eq_false hg) | (with_reducible replace hg := eqT hg) | (with_reducible replace hg := eqF hg) | (with_reducible replace hg := neT hg) | (with_reducible replace hg := neF hg) | (with_reducible replace hg := noT hg) | (with_reducible replace hg := noF hg)) <;> (try (exfalso; omega))))
    | ((with_reducible refine WL.isF ?_); first | refine WL.skipF rfl rfl rfl rfl gdQ ?_ | refine WL.skipU rfl rfl rfl rfl ?_ | refine WL.runF rfl rfl rfl gdQ ?_ | (refine WL.cases rfl rfl rfl (fun hg => ?_) (fun hg => ?_) <;> (try first | (with_reducible replace hg := of_decide_eq_true hg) | (with_reducible replace hg := of_decide_eq_false hg) | (with_reducible replace hg := eqT hg) | (with_reducible replace hg := eqF hg) | (with_reducible replace hg := neT hg) | (with_reducible replace hg := neF hg) | (with_reducible replace hg := noT hg) | (with_reducible replace hg := noF hg)) <;> (try (exfalso; omega))))
    | ((with_reducible refine WL.isN_box ?_); first | refine WL.step rfl (StepTo.boxA rfl rfl rfl rfl (fun _ => ?_)) | refine WL.step rfl (StepTo.box1 rfl rfl rfl rfl rfl (fun _ => ?_)))
    | ((with_reducible refine WL.isN_alloc ?_); first | refine WL.step rfl (StepTo.allocA rfl rfl rfl rfl (fun _ => ?_)) | refine WL.step rfl (StepTo.alloc1 rfl rfl rfl rfl rfl (fun _ => ?_)))
    | ((with_reducible refine WL.isN_store ?_); first | refine WL.step rfl (StepTo.store1 0 rfl rfl rfl rfl rfl rfl rfl overQ setQ ?_) | refine WL.step rfl (StepTo.storeA 0 rfl rfl rfl rfl rfl rfl rfl rfl overQ setQ ?_) | refine WL.step rfl (StepTo.storeRow 0 rfl rfl rfl rfl rfl rfl rfl rfl (by omega) setQ ?_) | refine WL.step rfl (StepTo.store1 1 rfl rfl rfl rfl rfl rfl rfl overQ setQ ?_) | refine WL.step rfl (StepTo.storeA 1 rfl rfl rfl rfl rfl rfl rfl rfl overQ setQ ?_) | refine WL.step rfl (StepTo.storeRow 1 rfl rfl rfl rfl rfl rfl rfl rfl (by omega) setQ ?_) | refine WL.step rfl (StepTo.store1 2 rfl rfl rfl rfl rfl rfl rfl overQ setQ ?_) | refine WL.step rfl (StepTo.storeA 2 rfl rfl rfl rfl rfl rfl rfl rfl overQ setQ ?_) | refine WL.step rfl (StepTo.storeRow 2 rfl rfl rfl rfl rfl rfl rfl rfl (by omega) setQ ?_) | refine WL.step rfl (StepTo.store1 3 rfl rfl rfl rfl rfl rfl rfl overQ setQ ?_) | refine WL.step rfl (StepTo.storeA 3 rfl rfl rfl rfl rfl rfl rfl rfl overQ setQ ?_) | refine WL.step rfl (StepTo.storeRow 3 rfl rfl rfl rfl rfl rfl rfl rfl (by omega) setQ ?_) | refine WL.step rfl (StepTo.store1 4 rfl rfl rfl rfl rfl rfl rfl overQ setQ ?_) | refine WL.step rfl (StepTo.storeA 4 rfl rfl rfl rfl rfl rfl rfl rfl overQ setQ ?_) | refine WL.step rfl (StepTo.storeRow 4 rfl rfl rfl rfl rfl rfl rfl rfl (by omega) setQ ?_) | refine WL.step rfl (StepTo.store1 5 rfl rfl rfl rfl rfl rfl rfl overQ setQ ?_) | refine WL.step rfl (StepTo.storeA 5 rfl rfl rfl rfl rfl rfl rfl rfl overQ setQ ?_) | refine WL.step rfl (StepTo.storeRow 5 rfl rfl rfl rfl rfl rfl rfl rfl (by omega) setQ ?_) | refine WL.step rfl (StepTo.store1 6 rfl rfl rfl rfl rfl rfl rfl overQ setQ ?_) | refine WL.step rfl (StepTo.storeA 6 rfl rfl rfl rfl rfl rfl rfl rfl overQ setQ ?_) | refine WL.step rfl (StepTo.storeRow 6 rfl rfl rfl rfl rfl rfl rfl rfl (by omega) setQ ?_) | refine WL.step rfl (StepTo.store1 7 rfl rfl rfl rfl rfl rfl rfl overQ setQ ?_) | refine WL.step rfl (StepTo.storeA 7 rfl rfl rfl rfl rfl rfl rfl rfl overQ setQ ?_) | refine WL.step rfl (StepTo.storeRow 7 rfl rfl rfl rfl rfl rfl rfl rfl (by omega) setQ ?_) | refine WL.step rfl (StepTo.store1 8 rfl rfl rfl rfl rfl rfl rfl overQ setQ ?_) | refine WL.step rfl (StepTo.storeA 8 rfl rfl rfl rfl rfl rfl rfl rfl overQ setQ ?_) | refine WL.step rfl (StepTo.storeRow 8 rfl rfl rfl rfl rfl rfl rfl rfl (by omega) setQ ?_) | refine WL.step rfl (StepTo.store1 9 rfl rfl rfl rfl rfl rfl rfl overQ setQ ?_) | refine WL.step rfl (StepTo.storeA 9 rfl rfl rfl rfl rfl rfl rfl rfl overQ setQ ?_) | refine WL.step rfl (StepTo.storeRow 9 rfl rfl rfl rfl rfl rfl rfl rfl (by omega) setQ ?_) | refine WL.step rfl (StepTo.store1 10 rfl rfl rfl rfl rfl rfl rfl overQ setQ ?_) | refine WL.step rfl (StepTo.storeA 10 rfl rfl rfl rfl rfl rfl rfl rfl overQ setQ ?_) | refine WL.step rfl (StepTo.storeRow 10 rfl rfl rfl rfl rfl rfl rfl rfl (by omega) setQ ?_) | refine WL.step rfl (StepTo.store1 11 rfl rfl rfl rfl rfl rfl rfl overQ setQ ?_) | refine WL.step rfl (StepTo.storeA 11 rfl rfl rfl rfl rfl rfl rfl rfl overQ setQ ?_) | refine WL.step rfl (StepTo.storeRow 11 rfl rfl rfl rfl rfl rfl rfl rfl (by omega) setQ ?_))
    | with_reducible refine WC.block ?_
    | with_reducible refine WC.scope ?_
    | with_reducible refine WC.label ?_
    | with_reducible refine WQ.ngN ?_
    | with_reducible refine WQ.ngR ?_
    | with_reducible refine WQ.ngX ?_
    | with_reducible refine WC.skip ?_
    | with_reducible refine WC.ret ?_
    | with_reducible refine WC.exit ?_
    | with_reducible refine WQ.thenR ?_
    | with_reducible refine WQ.thenX ?_
    | with_reducible refine WQ.blkN ?_
    | with_reducible refine WQ.blkR ?_
    | ((with_reducible refine WQ.blkX ?_ ?_); focus rfl)
    | ((with_reducible refine WQ.blkY ?_ ?_); focus rfl)
    | refine WC.condT rfl ?_
    | refine WC.condF rfl ?_
    | refine WC.condTh rfl gdQ ?_
    | refine WC.condFh rfl gdQ ?_
    | (refine WC.cond rfl (fun hc => ?_) (fun hc => ?_) <;> (try first | (with_reducible replace hc := of_decide_eq_true hc) | (with_reducible replace hc := of_decide_eq_false hc) | (with_reducible replace hc := eqT hc) | (with_reducible replace hc := eqF hc) | (with_reducible replace hc := neT hc) | (with_reducible replace hc := neF hc) | (with_reducible replace hc := noT hc) | (with_reducible replace hc := noF hc)) <;> (try (exfalso; omega))))
    refine WC.cut (fun τ H => ∃ (Au : Option Addr) (cu bu : Nat), okA Au ps.length ∧ τ = [(2, .int .i64 to), (3, .int .i64 now), (4, .pointer (some ⟨bs, 0, none⟩)), (11, .int .i64 (underF path ps)), (12, .int .i64 (lostN ps).length), (13, .pointer (some ⟨bt, 0, none⟩)), (14, .slice (some ⟨bl, ol, none⟩) (dropT path ps).length c4), (15, .int .i64 (underF to D)), (16, .int .i64 i),
          (17, .pointer (some ⟨bu, 0, none⟩)), (18, .bool true)] ∧
        H = [.box bu 25 [.int .u32 cum, .slice Au ps.length cu], .row Au ps.length cu 41 7 (flat Pc.cs (ts.set j (resent to now q))), .box bt 25 [.int .u32 cum, .slice At ps.length ct], .vw (some ⟨bl, ol, none⟩) (dropT path ps).length 1 (flat u32c (dropT path ps)), .box bs 25 [.int .u32 cum, .slice A ps.length c], .vw A ps.length 7 (flat Pc.cs ps)]) ?_ ?_
    refine WC.anyI [0, 2] (by kernel_rfl) ?_
    refine WA.take (idx := [0, 2]) 0 rfl (by kernel_rfl) (by kernel_rfl) (by kernel_rfl) rfl ⟨by decide, rfl⟩ (by first | exact Yld.load rfl rfl rfl rfl cellQ | exact Yld.loadAgg rfl rfl rfl rfl rfl aggQ) ?_
    refine WA.take (idx := [0, 2]) 1 rfl (by kernel_rfl) (by kernel_rfl) (by kernel_rfl) rfl ⟨by decide, rfl⟩ (Yld.pure rfl nrmQ) ?_
    refine WA.take (idx := [0, 2]) 2 rfl (by kernel_rfl) (by kernel_rfl) (by kernel_rfl) rfl ⟨by decide, rfl⟩ (Yld.pure rfl nrmQ) ?_
    refine WA.take (idx := [0, 2]) 3 rfl (by kernel_rfl) (by kernel_rfl) (by kernel_rfl) rfl ⟨by decide, rfl⟩ (by first | exact Yld.indexS 0 rfl rfl rfl rfl rfl rfl (by omega) | exact Yld.indexS 1 rfl rfl rfl rfl rfl rfl (by omega) | exact Yld.indexS 2 rfl rfl rfl rfl rfl rfl (by omega) | exact Yld.indexS _ rfl rfl rfl rfl rfl rfl (by omega) | exact Yld.indexA 0 rfl rfl rfl rfl rfl rfl (by omega) | exact Yld.indexA 1 rfl rfl rfl rfl rfl rfl (by omega) | exact Yld.indexA _ rfl rfl rfl rfl rfl rfl (by omega)) ?_
    refine WA.take (idx := [0, 2]) 4 rfl (by kernel_rfl) (by kernel_rfl) (by kernel_rfl) rfl ⟨by decide, rfl⟩ (by first | exact Yld.load rfl rfl rfl rfl cellQ | exact Yld.loadAgg rfl rfl rfl rfl rfl aggQ) ?_
    refine WA.take (idx := [0, 2]) 5 rfl (by kernel_rfl) (by kernel_rfl) (by kernel_rfl) rfl ⟨by decide, rfl⟩ (Yld.pure rfl nrmQ) ?_
    refine WA.take (idx := [0, 2]) 6 rfl (by kernel_rfl) (by kernel_rfl) (by kernel_rfl) rfl ⟨by decide, rfl⟩ (Yld.pure rfl nrmQ) ?_
    refine WA.two 7 11 (by kernel_rfl) rfl rfl rfl rfl ?_ ?_
    · refine StepTo.callN [] (us := [.agg #[.int .u32 cum, .slice At ps.length ct], .int .u32 p.tsn, .int .i64 to, .int .i64 now]) rfl rfl rfl rfl rfl (by kernel_rfl) (fun w hw => again_yes cum At ps.length ct ts p.tsn to now j q w (hw.lst 1 Pc.cs_len (by omega) rfl) hokt (by omega) hfind hq) ?_
      rintro v N ⟨A6, c6, hok6, rfl, rfl⟩
      refine ⟨⟨[1, 3], by decide, rfl⟩, ?_⟩
      refine WA.take (idx := [1, 3]) 8 rfl (by kernel_rfl) (by kernel_rfl) (by kernel_rfl) rfl ⟨by decide, rfl⟩ (Yld.pure rfl nrmQ) ?_
      refine WA.take (idx := [1, 3]) 9 rfl (by kernel_rfl) (by kernel_rfl) (by kernel_rfl) rfl ⟨by decide, rfl⟩ (Yld.pure rfl nrmQ) ?_
      refine WA.take (idx := [1, 3]) 10 rfl (by kernel_rfl) (by kernel_rfl) (by kernel_rfl) rfl ⟨by decide, rfl⟩ (Yld.pure rfl nrmQ) ?_
      refine WA.one 11 (by kernel_rfl) rfl rfl ?_
      first | refine StepTo.allocA rfl rfl rfl rfl (fun _ => ⟨⟨[2, 4], by decide, rfl⟩, ?_⟩) | refine StepTo.alloc1 rfl rfl rfl rfl rfl (fun _ => ⟨⟨[2, 4], by decide, rfl⟩, ?_⟩)
      refine WA.one 12 (by kernel_rfl) rfl rfl ?_
      first | refine StepTo.storeA 0 rfl rfl rfl rfl rfl rfl rfl rfl overQ setQ ⟨⟨[2, 4], by decide, rfl⟩, ?_⟩ | refine StepTo.store1 0 rfl rfl rfl rfl rfl rfl rfl overQ setQ ⟨⟨[2, 4], by decide, rfl⟩, ?_⟩
      refine WA.take (idx := [2, 4]) 13 rfl (by kernel_rfl) (by kernel_rfl) (by kernel_rfl) rfl ⟨by decide, rfl⟩ (Yld.pure rfl nrmQ) ?_
      refine WA.done (by kernel_rfl) ?_
      exact WQ.thenN (WQ.met _ _ [0, 1, 2, 4, 5, 6] (by repeat (first | exact Sub.nil | refine Sub.cons rfl ?_ | refine Sub.consE rfl (int_eq (by omega)) ?_)) ⟨by decide, rfl⟩ ⟨A6, c6, _, hok6, rfl, rfl⟩)
    · first | refine StepTo.allocA rfl rfl rfl rfl (fun _ => ⟨⟨[1, 3], by decide, rfl⟩, ?_⟩) | refine StepTo.alloc1 rfl rfl rfl rfl rfl (fun _ => ⟨⟨[1, 3], by decide, rfl⟩, ?_⟩)
      refine WA.one 7 (by kernel_rfl) rfl rfl ?_
      refine StepTo.callN [] (us := [.agg #[.int .u32 cum, .slice At ps.length ct], .int .u32 p.tsn, .int .i64 to, .int .i64 now]) rfl rfl rfl rfl rfl (by kernel_rfl) (fun w hw => again_yes cum At ps.length ct ts p.tsn to now j q w (hw.lst 2 Pc.cs_len (by omega) rfl) hokt (by omega) hfind hq) ?_
      rintro v N ⟨A6, c6, hok6, rfl, rfl⟩
      refine ⟨⟨[2, 4], by decide, rfl⟩, ?_⟩
      refine WA.take (idx := [2, 4]) 8 rfl (by kernel_rfl) (by kernel_rfl) (by kernel_rfl) rfl ⟨by decide, rfl⟩ (Yld.pure rfl nrmQ) ?_
      refine WA.take (idx := [2, 4]) 9 rfl (by kernel_rfl) (by kernel_rfl) (by kernel_rfl) rfl ⟨by decide, rfl⟩ (Yld.pure rfl nrmQ) ?_
      refine WA.take (idx := [2, 4]) 10 rfl (by kernel_rfl) (by kernel_rfl) (by kernel_rfl) rfl ⟨by decide, rfl⟩ (Yld.pure rfl nrmQ) ?_
      refine WA.one 12 (by kernel_rfl) rfl rfl ?_
      first | refine StepTo.storeA 1 rfl rfl rfl rfl rfl rfl rfl rfl overQ setQ ⟨⟨[2, 4], by decide, rfl⟩, ?_⟩ | refine StepTo.store1 1 rfl rfl rfl rfl rfl rfl rfl overQ setQ ⟨⟨[2, 4], by decide, rfl⟩, ?_⟩
      refine WA.take (idx := [2, 4]) 13 rfl (by kernel_rfl) (by kernel_rfl) (by kernel_rfl) rfl ⟨by decide, rfl⟩ (Yld.pure rfl nrmQ) ?_
      refine WA.done (by kernel_rfl) ?_
      exact WQ.thenN (WQ.met _ _ [1, 0, 2, 4, 5, 6] (by repeat (first | exact Sub.nil | refine Sub.cons rfl ?_ | refine Sub.consE rfl (int_eq (by omega)) ?_)) ⟨by decide, rfl⟩ ⟨A6, c6, _, hok6, rfl, rfl⟩)
    rintro τ H ⟨Au, cu, bu, hoku, rfl, rfl⟩
    refine WC.rowVw 1 rfl (by omega) ?_
    repeat' (first
    | with_reducible refine WL.nil ?_
    | with_reducible refine WQ.thenN ?_
    | with_reducible refine WQ.code ?_
    | with_reducible refine WC.seq ?_
    | with_reducible refine WC.region ?_
    | ((with_reducible refine WL.isN_move ?_); first | refine WL.yld rfl (Yld.pure rfl nrmQ) ?_)
    | ((with_reducible refine WL.isN_assign ?_); first | refine WL.yld rfl (Yld.pure rfl nrmQ) ?_)
    | ((with_reducible refine WL.isN_bin ?_); first | refine WL.yld rfl (Yld.pure rfl nrmQ) ?_ | refine WL.yld rfl (Yld.rem rfl rfl rfl rfl (by omega) (by omega)) ?_ | refine WL.yld rfl (Yld.quo rfl rfl rfl rfl (by omega) (by omega) nrmQ) ?_ | refine WL.yld rfl (Yld.eqlB rfl rfl rfl rfl) ?_ | refine WL.yld rfl (Yld.neqB rfl rfl rfl rfl) ?_ | refine WL.yld rfl (Yld.eqlA 4 rfl rfl rfl (by kernel_rfl) (by kernel_rfl) rfl rfl) ?_ | refine WL.yld rfl (Yld.neqA 4 rfl rfl rfl (by kernel_rfl) (by kernel_rfl) rfl rfl) ?_ | refine WL.yld rfl (Yld.quoT rfl rfl rfl rfl (by omega) nrmQ) ?_)
    | ((with_reducible refine WL.isN_un ?_); first | refine WL.yld rfl (Yld.pure rfl nrmQ) ?_)
    | ((with_reducible refine WL.isN_extract ?_); first | refine WL.yld rfl (Yld.pure rfl nrmQ) ?_)
    | ((with_reducible refine WL.isN_load ?_); first | refine WL.yld rfl (Yld.load rfl rfl rfl rfl cellQ) ?_ | refine WL.yld rfl (Yld.loadAgg rfl rfl rfl rfl rfl aggQ) ?_)
    | ((with_reducible refine WL.isN_iaddr ?_); first | refine WL.yld rfl (Yld.indexS 0 rfl rfl rfl rfl rfl rfl (by omega)) ?_ | refine WL.yld rfl (Yld.indexS 1 rfl rfl rfl rfl rfl rfl (by omega)) ?_ | refine WL.yld rfl (Yld.indexS 2 rfl rfl rfl rfl rfl rfl (by omega)) ?_ | refine WL.yld rfl (Yld.indexS _ rfl rfl rfl rfl rfl rfl (by omega)) ?_ | refine WL.yld rfl (Yld.indexA 0 rfl rfl rfl rfl rfl rfl (by omega)) ?_ | refine WL.yld rfl (Yld.indexA 1 rfl rfl rfl rfl rfl rfl (by omega)) ?_ | refine WL.yld rfl (Yld.indexA _ rfl rfl rfl rfl rfl rfl (by omega)) ?_)
    | ((with_reducible refine WL.isN_pick ?_); first | refine WL.yld rfl (Yld.pickT rfl rfl rfl) ?_ | refine WL.yld rfl (Yld.pickF rfl rfl rfl) ?_ | refine WL.yld rfl (Yld.pickTh rfl rfl gdQ rfl) ?_ | refine WL.yld rfl (Yld.pickFh rfl rfl gdQ rfl) ?_ | refine WL.yld rfl (Yld.pickB rfl rfl rfl rfl) ?_)
    | ((with_reducible refine WL.isN_call ?_); first | refine WL.yld rfl (Yld.lenSlice rfl rfl rfl) ?_ | refine WL.yld rfl (Yld.lenStr rfl rfl rfl) ?_)
    | ((with_reducible refine WL.isT ?_); first | refine WL.skipT rfl rfl rfl rfl gdQ ?_ | refine WL.skipU rfl rfl rfl rfl ?_ | refine WL.runT rfl rfl rfl gdQ ?_ | (refine WL.cases rfl rfl rfl (fun hg => ?_) (fun hg => ?_) <;> (try first | (with_reducible replace hg := of_decide_eq_true hg) | (with_reducible replace hg := of_decide_eq_false hg) | (with_reducible replace hg := eqT hg) | (with_reducible replace hg := eqF hg) | (with_reducible replace hg := neT hg) | (with_reducible replace hg := neF hg) | (with_reducible replace hg := noT hg) | (with_reducible replace hg := noF hg)) <;> (try (exfalso; omega))))
    | ((with_reducible refine WL.isF ?_); first | refine WL.skipF rfl rfl rfl rfl gdQ ?_ | refine WL.skipU rfl rfl rfl rfl ?_ | refine WL.runF rfl rfl rfl gdQ ?_ | (refine WL.cases rfl rfl rfl (fun hg => ?_) (fun hg => ?_) <;> (try first | (with_reducible replace hg := of_decide_eq_true hg) | (with_reducible replace hg := of_decide_eq_false hg) | (with_reducible replace hg := eqT hg) | (with_reducible replace hg := eqF hg) | (with_reducible replace hg := neT hg) | (with_reducible replace hg := neF hg) | (with_reducible replace hg := noT hg) | (with_reducible replace hg := noF hg)) <;> (try (exfalso; omega))))
    | ((with_reducible refine WL.isN_box ?_); first | refine WL.step rfl (StepTo.boxA rfl rfl rfl rfl (fun _ => ?_)) | refine WL.step rfl (StepTo.box1 rfl rfl rfl rfl rfl (fun _ => ?_)))
    | ((with_reducible refine WL.isN_alloc ?_); first | refine WL.step rfl (StepTo.allocA rfl rfl rfl rfl (fun _ => ?_)) | refine WL.step rfl (StepTo.alloc1 rfl rfl rfl rfl rfl (fun _ => ?_)))
    | ((with_reducible refine WL.isN_store ?_); first | refine WL.step rfl (StepTo.store1 0 rfl rfl rfl rfl rfl rfl rfl overQ setQ ?_) | refine WL.step rfl (StepTo.storeA 0 rfl rfl rfl rfl rfl rfl rfl rfl overQ setQ ?_) | refine WL.step rfl (StepTo.storeRow 0 rfl rfl rfl rfl rfl rfl rfl rfl (by omega) setQ ?_) | refine WL.step rfl (StepTo.store1 1 rfl rfl rfl rfl rfl rfl rfl overQ setQ ?_) | refine WL.step rfl (StepTo.storeA 1 rfl rfl rfl rfl rfl rfl rfl rfl overQ setQ ?_) | refine WL.step rfl (StepTo.storeRow 1 rfl rfl rfl rfl rfl rfl rfl rfl (by omega) setQ ?_) | refine WL.step rfl (StepTo.store1 2 rfl rfl rfl rfl rfl rfl rfl overQ setQ ?_) | refine WL.step rfl (StepTo.storeA 2 rfl rfl rfl rfl rfl rfl rfl rfl overQ setQ ?_) | refine WL.step rfl (StepTo.storeRow 2 rfl rfl rfl rfl rfl rfl rfl rfl (by omega) setQ ?_) | refine WL.step rfl (StepTo.store1 3 rfl rfl rfl rfl rfl rfl rfl overQ setQ ?_) | refine WL.step rfl (StepTo.storeA 3 rfl rfl rfl rfl rfl rfl rfl rfl overQ setQ ?_) | refine WL.step rfl (StepTo.storeRow 3 rfl rfl rfl rfl rfl rfl rfl rfl (by omega) setQ ?_) | refine WL.step rfl (StepTo.store1 4 rfl rfl rfl rfl rfl rfl rfl overQ setQ ?_) | refine WL.step rfl (StepTo.storeA 4 rfl rfl rfl rfl rfl rfl rfl rfl overQ setQ ?_) | refine WL.step rfl (StepTo.storeRow 4 rfl rfl rfl rfl rfl rfl rfl rfl (by omega) setQ ?_) | refine WL.step rfl (StepTo.store1 5 rfl rfl rfl rfl rfl rfl rfl overQ setQ ?_) | refine WL.step rfl (StepTo.storeA 5 rfl rfl rfl rfl rfl rfl rfl rfl overQ setQ ?_) | refine WL.step rfl (StepTo.storeRow 5 rfl rfl rfl rfl rfl rfl rfl rfl (by omega) setQ ?_) | refine WL.step rfl (StepTo.store1 6 rfl rfl rfl rfl rfl rfl rfl overQ setQ ?_) | refine WL.step rfl (StepTo.storeA 6 rfl rfl rfl rfl rfl rfl rfl rfl overQ setQ ?_) | refine WL.step rfl (StepTo.storeRow 6 rfl rfl rfl rfl rfl rfl rfl rfl (by omega) setQ ?_) | refine WL.step rfl (StepTo.store1 7 rfl rfl rfl rfl rfl rfl rfl overQ setQ ?_) | refine WL.step rfl (StepTo.storeA 7 rfl rfl rfl rfl rfl rfl rfl rfl overQ setQ ?_) | refine WL.step rfl (StepTo.storeRow 7 rfl rfl rfl rfl rfl rfl rfl rfl (by omega) setQ ?_) | refine WL.step rfl (StepTo.store1 8 rfl rfl rfl rfl rfl rfl rfl overQ setQ ?_) | refine WL.step rfl (StepTo.storeA 8 rfl rfl rfl rfl rfl rfl rfl rfl overQ setQ ?_) | refine WL.step rfl (StepTo.storeRow 8 rfl rfl rfl rfl rfl rfl rfl rfl (by omega) setQ ?_) | refine WL.step rfl (StepTo.store1 9 rfl rfl rfl rfl rfl rfl rfl overQ setQ ?_) | refine WL.step rfl (StepTo.storeA 9 rfl rfl rfl rfl rfl rfl rfl rfl overQ setQ ?_) | refine WL.step rfl (StepTo.storeRow 9 rfl rfl rfl rfl rfl rfl rfl rfl (by omega) setQ ?_) | refine WL.step rfl (StepTo.store1 10 rfl rfl rfl rfl rfl rfl rfl overQ setQ ?_) | refine WL.step rfl (StepTo.storeA 10 rfl rfl rfl rfl rfl rfl rfl rfl overQ setQ ?_) | refine WL.step rfl (StepTo.storeRow 10 rfl rfl rfl rfl rfl rfl rfl rfl (by omega) setQ ?_) | refine WL.step rfl (StepTo.store1 11 rfl rfl rfl rfl rfl rfl rfl overQ setQ ?_) | refine WL.step rfl (StepTo.storeA 11 rfl rfl rfl rfl rfl rfl rfl rfl overQ setQ ?_) | refine WL.step rfl (StepTo.storeRow 11 rfl rfl rfl rfl rfl rfl rfl rfl (by omega) setQ ?_))
    | with_reducible refine WC.block ?_
    | with_reducible refine WC.scope ?_
    | with_reducible refine WC.label ?_
    | with_reducible refine WQ.ngN ?_
    | with_reducible refine WQ.ngR ?_
    | with_reducible refine WQ.ngX ?_
    | with_reducible refine WC.skip ?_
    | with_reducible refine WC.ret ?_
    | with_reducible refine WC.exit ?_
    | with_reducible refine WQ.thenR ?_
    | with_reducible refine WQ.thenX ?_
    | with_reducible refine WQ.blkN ?_
    | with_reducible refine WQ.blkR ?_
    | ((with_reducible refine WQ.blkX ?_ ?_); focus rfl)
    | ((with_reducible refine WQ.blkY ?_ ?_); focus rfl)
    | refine WC.condT rfl ?_
    | refine WC.condF rfl ?_
    | refine WC.condTh rfl gdQ ?_
    | refine WC.condFh rfl gdQ ?_
    | (refine WC.cond rfl (fun hc => ?_) (fun hc => ?_) <;> (try first | (with_reducible replace hc := of_decide_eq_true hc) | (with_reducible replace hc := of_decide_eq_false hc) | (with_reducible replace hc := eqT hc) | (with_reducible replace hc := eqF hc) | (with_reducible replace hc := neT hc) | (with_reducible replace hc := neF hc) | (with_reducible replace hc := noT hc) | (with_reducible replace hc := noF hc)) <;> (try (exfalso; omega))))
    refine WC.cut (fun τ H => τ = [(2, .int .i64 to), (3, .int .i64 now), (4, .pointer (some ⟨bs, 0, none⟩)), (11, .int .i64 (underF path ps)), (12, .int .i64 (lostN ps).length), (13, .pointer (some ⟨bt, 0, none⟩)), (14, .slice (some ⟨bl, ol, none⟩) (dropT path ps).length c4), (15, .int .i64 (underF to D)), (16, .int .i64 i),
          (17, .pointer (some ⟨bu, 0, none⟩)), (20, .bool false)] ∧
        H = [.box bu 25 [.int .u32 cum, .slice Au ps.length cu], .vw Au ps.length 7 (flat Pc.cs (ts.set j (resent to now q))), .box bt 25 [.int .u32 cum, .slice At ps.length ct], .vw (some ⟨bl, ol, none⟩) (dropT path ps).length 1 (flat u32c (dropT path ps)), .box bs 25 [.int .u32 cum, .slice A ps.length c], .vw A ps.length 7 (flat Pc.cs ps)]) ?_ ?_
    refine WC.anyI [0, 3] (by kernel_rfl) ?_
    refine WA.take (idx := [0, 3]) 0 rfl (by kernel_rfl) (by kernel_rfl) (by kernel_rfl) rfl ⟨by decide, rfl⟩ (by first | exact Yld.load rfl rfl rfl rfl cellQ | exact Yld.loadAgg rfl rfl rfl rfl rfl aggQ) ?_
    refine WA.take (idx := [0, 3]) 1 rfl (by kernel_rfl) (by kernel_rfl) (by kernel_rfl) rfl ⟨by decide, rfl⟩ (Yld.pure rfl nrmQ) ?_
    refine WA.take (idx := [0, 3]) 2 rfl (by kernel_rfl) (by kernel_rfl) (by kernel_rfl) rfl ⟨by decide, rfl⟩ (Yld.pure rfl nrmQ) ?_
    refine WA.take (idx := [0, 3]) 3 rfl (by kernel_rfl) (by kernel_rfl) (by kernel_rfl) rfl ⟨by decide, rfl⟩ (by first | exact Yld.indexS 0 rfl rfl rfl rfl rfl rfl (by omega) | exact Yld.indexS 1 rfl rfl rfl rfl rfl rfl (by omega) | exact Yld.indexS 2 rfl rfl rfl rfl rfl rfl (by omega) | exact Yld.indexS _ rfl rfl rfl rfl rfl rfl (by omega) | exact Yld.indexA 0 rfl rfl rfl rfl rfl rfl (by omega) | exact Yld.indexA 1 rfl rfl rfl rfl rfl rfl (by omega) | exact Yld.indexA _ rfl rfl rfl rfl rfl rfl (by omega)) ?_
    refine WA.take (idx := [0, 3]) 4 rfl (by kernel_rfl) (by kernel_rfl) (by kernel_rfl) rfl ⟨by decide, rfl⟩ (by first | exact Yld.load rfl rfl rfl rfl cellQ | exact Yld.loadAgg rfl rfl rfl rfl rfl aggQ) ?_
    refine WA.take (idx := [0, 3]) 5 rfl (by kernel_rfl) (by kernel_rfl) (by kernel_rfl) rfl ⟨by decide, rfl⟩ (Yld.pure rfl nrmQ) ?_
    refine WA.take (idx := [0, 3]) 6 rfl (by kernel_rfl) (by kernel_rfl) (by kernel_rfl) rfl ⟨by decide, rfl⟩ (Yld.pure rfl nrmQ) ?_
    refine WA.two 7 11 (by kernel_rfl) rfl rfl rfl rfl ?_ ?_
    · refine StepTo.callV (v := .tuple #[.agg #[.int .u32 cum, .slice Au ps.length cu], .bool false]) (us := [.agg #[.int .u32 cum, .slice Au ps.length cu], .int .u32 p.tsn, .int .i64 to, .int .i64 now]) rfl rfl rfl rfl rfl (by kernel_rfl) (fun w hw => again_no cum Au ps.length cu _ p.tsn to now w (hw.lst 1 Pc.cs_len (by omega) rfl) (by omega) hnone) ⟨⟨[0, 3], by decide, rfl⟩, ?_⟩
      refine WA.take (idx := [0, 3]) 8 rfl (by kernel_rfl) (by kernel_rfl) (by kernel_rfl) rfl ⟨by decide, rfl⟩ (Yld.pure rfl nrmQ) ?_
      refine WA.take (idx := [0, 3]) 9 rfl (by kernel_rfl) (by kernel_rfl) (by kernel_rfl) rfl ⟨by decide, rfl⟩ (Yld.pure rfl nrmQ) ?_
      refine WA.take (idx := [0, 3]) 10 rfl (by kernel_rfl) (by kernel_rfl) (by kernel_rfl) rfl ⟨by decide, rfl⟩ (Yld.pure rfl nrmQ) ?_
      refine WA.one 11 (by kernel_rfl) rfl rfl ?_
      first | refine StepTo.allocA rfl rfl rfl rfl (fun _ => ⟨⟨[1, 4], by decide, rfl⟩, ?_⟩) | refine StepTo.alloc1 rfl rfl rfl rfl rfl (fun _ => ⟨⟨[1, 4], by decide, rfl⟩, ?_⟩)
      refine WA.one 12 (by kernel_rfl) rfl rfl ?_
      first | refine StepTo.storeA 0 rfl rfl rfl rfl rfl rfl rfl rfl overQ setQ ⟨⟨[1, 4], by decide, rfl⟩, ?_⟩ | refine StepTo.store1 0 rfl rfl rfl rfl rfl rfl rfl overQ setQ ⟨⟨[1, 4], by decide, rfl⟩, ?_⟩
      refine WA.take (idx := [1, 4]) 13 rfl (by kernel_rfl) (by kernel_rfl) (by kernel_rfl) rfl ⟨by decide, rfl⟩ (Yld.pure rfl nrmQ) ?_
      refine WA.done (by kernel_rfl) ?_
      exact WQ.thenN (WQ.met _ _ [1, 2, 3, 4, 5, 6] (by repeat (first | exact Sub.nil | refine Sub.cons rfl ?_ | refine Sub.consE rfl (int_eq (by omega)) ?_)) ⟨by decide, rfl⟩ ⟨rfl, rfl⟩)
    · first | refine StepTo.allocA rfl rfl rfl rfl (fun _ => ⟨⟨[1, 4], by decide, rfl⟩, ?_⟩) | refine StepTo.alloc1 rfl rfl rfl rfl rfl (fun _ => ⟨⟨[1, 4], by decide, rfl⟩, ?_⟩)
      refine WA.one 7 (by kernel_rfl) rfl rfl ?_
      refine StepTo.callV (v := .tuple #[.agg #[.int .u32 cum, .slice Au ps.length cu], .bool false]) (us := [.agg #[.int .u32 cum, .slice Au ps.length cu], .int .u32 p.tsn, .int .i64 to, .int .i64 now]) rfl rfl rfl rfl rfl (by kernel_rfl) (fun w hw => again_no cum Au ps.length cu _ p.tsn to now w (hw.lst 2 Pc.cs_len (by omega) rfl) (by omega) hnone) ⟨⟨[1, 4], by decide, rfl⟩, ?_⟩
      refine WA.take (idx := [1, 4]) 8 rfl (by kernel_rfl) (by kernel_rfl) (by kernel_rfl) rfl ⟨by decide, rfl⟩ (Yld.pure rfl nrmQ) ?_
      refine WA.take (idx := [1, 4]) 9 rfl (by kernel_rfl) (by kernel_rfl) (by kernel_rfl) rfl ⟨by decide, rfl⟩ (Yld.pure rfl nrmQ) ?_
      refine WA.take (idx := [1, 4]) 10 rfl (by kernel_rfl) (by kernel_rfl) (by kernel_rfl) rfl ⟨by decide, rfl⟩ (Yld.pure rfl nrmQ) ?_
      refine WA.one 12 (by kernel_rfl) rfl rfl ?_
      first | refine StepTo.storeA 0 rfl rfl rfl rfl rfl rfl rfl rfl overQ setQ ⟨⟨[1, 4], by decide, rfl⟩, ?_⟩ | refine StepTo.store1 0 rfl rfl rfl rfl rfl rfl rfl overQ setQ ⟨⟨[1, 4], by decide, rfl⟩, ?_⟩
      refine WA.take (idx := [1, 4]) 13 rfl (by kernel_rfl) (by kernel_rfl) (by kernel_rfl) rfl ⟨by decide, rfl⟩ (Yld.pure rfl nrmQ) ?_
      refine WA.done (by kernel_rfl) ?_
      exact WQ.thenN (WQ.met _ _ [1, 2, 3, 4, 5, 6] (by repeat (first | exact Sub.nil | refine Sub.cons rfl ?_ | refine Sub.consE rfl (int_eq (by omega)) ?_)) ⟨by decide, rfl⟩ ⟨rfl, rfl⟩)
    rintro τ H ⟨rfl, rfl⟩
    repeat' (first
    | with_reducible refine WL.nil ?_
    | with_reducible refine WQ.thenN ?_
    | with_reducible refine WQ.code ?_
    | with_reducible refine WC.seq ?_
    | with_reducible refine WC.region ?_
    | ((with_reducible refine WL.isN_move ?_); first | refine WL.yld rfl (Yld.pure rfl nrmQ) ?_)
    | ((with_reducible refine WL.isN_assign ?_); first | refine WL.yld rfl (Yld.pure rfl nrmQ) ?_)
    | ((with_reducible refine WL.isN_bin ?_); first | refine WL.yld rfl (Yld.pure rfl nrmQ) ?_ | refine WL.yld rfl (Yld.rem rfl rfl rfl rfl (by omega) (by omega)) ?_ | refine WL.yld rfl (Yld.quo rfl rfl rfl rfl (by omega) (by omega) nrmQ) ?_ | refine WL.yld rfl (Yld.eqlB rfl rfl rfl rfl) ?_ | refine WL.yld rfl (Yld.neqB rfl rfl rfl rfl) ?_ | refine WL.yld rfl (Yld.eqlA 4 rfl rfl rfl (by kernel_rfl) (by kernel_rfl) rfl rfl) ?_ | refine WL.yld rfl (Yld.neqA 4 rfl rfl rfl (by kernel_rfl) (by kernel_rfl) rfl rfl) ?_ | refine WL.yld rfl (Yld.quoT rfl rfl rfl rfl (by omega) nrmQ) ?_)
    | ((with_reducible refine WL.isN_un ?_); first | refine WL.yld rfl (Yld.pure rfl nrmQ) ?_)
    | ((with_reducible refine WL.isN_extract ?_); first | refine WL.yld rfl (Yld.pure rfl nrmQ) ?_)
    | ((with_reducible refine WL.isN_load ?_); first | refine WL.yld rfl (Yld.load rfl rfl rfl rfl cellQ) ?_ | refine WL.yld rfl (Yld.loadAgg rfl rfl rfl rfl rfl aggQ) ?_)
    | ((with_reducible refine WL.isN_iaddr ?_); first | refine WL.yld rfl (Yld.indexS 0 rfl rfl rfl rfl rfl rfl (by omega)) ?_ | refine WL.yld rfl (Yld.indexS 1 rfl rfl rfl rfl rfl rfl (by omega)) ?_ | refine WL.yld rfl (Yld.indexS 2 rfl rfl rfl rfl rfl rfl (by omega)) ?_ | refine WL.yld rfl (Yld.indexS _ rfl rfl rfl rfl rfl rfl (by omega)) ?_ | refine WL.yld rfl (Yld.indexA 0 rfl rfl rfl rfl rfl rfl (by omega)) ?_ | refine WL.yld rfl (Yld.indexA 1 rfl rfl rfl rfl rfl rfl (by omega)) ?_ | refine WL.yld rfl (Yld.indexA _ rfl rfl rfl rfl rfl rfl (by omega)) ?_)
    | ((with_reducible refine WL.isN_pick ?_); first | refine WL.yld rfl (Yld.pickT rfl rfl rfl) ?_ | refine WL.yld rfl (Yld.pickF rfl rfl rfl) ?_ | refine WL.yld rfl (Yld.pickTh rfl rfl gdQ rfl) ?_ | refine WL.yld rfl (Yld.pickFh rfl rfl gdQ rfl) ?_ | refine WL.yld rfl (Yld.pickB rfl rfl rfl rfl) ?_)
    | ((with_reducible refine WL.isN_call ?_); first | refine WL.yld rfl (Yld.lenSlice rfl rfl rfl) ?_ | refine WL.yld rfl (Yld.lenStr rfl rfl rfl) ?_)
    | ((with_reducible refine WL.isT ?_); first | refine WL.skipT rfl rfl rfl rfl gdQ ?_ | refine WL.skipU rfl rfl rfl rfl ?_ | refine WL.runT rfl rfl rfl gdQ ?_ | (refine WL.cases rfl rfl rfl (fun hg => ?_) (fun hg => ?_) <;> (try first | (with_reducible replace hg := of_decide_eq_true hg) | (with_reducible replace hg := of_decide_eq_false hg) | (with_reducible replace hg := eqT hg) | (with_reducible replace hg := eqF hg) | (with_reducible replace hg := neT hg) | (with_reducible replace hg := neF hg) | (with_reducible replace hg := noT hg) | (with_reducible replace hg := noF hg)) <;> (try (exfalso; omega))))
    | ((with_reducible refine WL.isF ?_); first | refine WL.skipF rfl rfl rfl rfl gdQ ?_ | refine WL.skipU rfl rfl rfl rfl ?_ | refine WL.runF rfl rfl rfl gdQ ?_ | (refine WL.cases rfl rfl rfl (fun hg => ?_) (fun hg => ?_) <;> (try first | (with_reducible replace hg := of_decide_eq_true hg) | (with_reducible replace hg := of_decide_eq_false hg) | (with_reducible replace hg := eqT hg) | (with_reducible replace hg := eqF hg) | (with_reducible replace hg := neT hg) | (with_reducible replace hg := neF hg) | (with_reducible replace hg := noT hg) | (with_reducible replace hg := noF hg)) <;> (try (exfalso; omega))))
    | ((with_reducible refine WL.isN_box ?_); first | refine WL.step rfl (StepTo.boxA rfl rfl rfl rfl (fun _ => ?_)) | refine WL.step rfl (StepTo.box1 rfl rfl rfl rfl rfl (fun _ => ?_)))
    | ((with_reducible refine WL.isN_alloc ?_); first | refine WL.step rfl (StepTo.allocA rfl rfl rfl rfl (fun _ => ?_)) | refine WL.step rfl (StepTo.alloc1 rfl rfl rfl rfl rfl (fun _ => ?_)))
    | ((with_reducible refine WL.isN_store ?_); first | refine WL.step rfl (StepTo.store1 0 rfl rfl rfl rfl rfl rfl rfl overQ setQ ?_) | refine WL.step rfl (StepTo.storeA 0 rfl rfl rfl rfl rfl rfl rfl rfl overQ setQ ?_) | refine WL.step rfl (StepTo.storeRow 0 rfl rfl rfl rfl rfl rfl rfl rfl (by omega) setQ ?_) | refine WL.step rfl (StepTo.store1 1 rfl rfl rfl rfl rfl rfl rfl overQ setQ ?_) | refine WL.step rfl (StepTo.storeA 1 rfl rfl rfl rfl rfl rfl rfl rfl overQ setQ ?_) | refine WL.step rfl (StepTo.storeRow 1 rfl rfl rfl rfl rfl rfl rfl rfl (by omega) setQ ?_) | refine WL.step rfl (StepTo.store1 2 rfl rfl rfl rfl rfl rfl rfl overQ setQ ?_) | refine WL.step rfl (StepTo.storeA 2 rfl rfl rfl rfl rfl rfl rfl rfl overQ setQ ?_) | refine WL.step rfl (StepTo.storeRow 2 rfl rfl rfl rfl rfl rfl rfl rfl (by omega) setQ ?_) | refine WL.step rfl (StepTo.store1 3 rfl rfl rfl rfl rfl rfl rfl overQ setQ ?_) | refine WL.step rfl (StepTo.storeA 3 rfl rfl rfl rfl rfl rfl rfl rfl overQ setQ ?_) | refine WL.step rfl (StepTo.storeRow 3 rfl rfl rfl rfl rfl rfl rfl rfl (by omega) setQ ?_) | refine WL.step rfl (StepTo.store1 4 rfl rfl rfl rfl rfl rfl rfl overQ setQ ?_) | refine WL.step rfl (StepTo.storeA 4 rfl rfl rfl rfl rfl rfl rfl rfl overQ setQ ?_) | refine WL.step rfl (StepTo.storeRow 4 rfl rfl rfl rfl rfl rfl rfl rfl (by omega) setQ ?_) | refine WL.step rfl (StepTo.store1 5 rfl rfl rfl rfl rfl rfl rfl overQ setQ ?_) | refine WL.step rfl (StepTo.storeA 5 rfl rfl rfl rfl rfl rfl rfl rfl overQ setQ ?_) | refine WL.step rfl (StepTo.storeRow 5 rfl rfl rfl rfl rfl rfl rfl rfl (by omega) setQ ?_) | refine WL.step rfl (StepTo.store1 6 rfl rfl rfl rfl rfl rfl rfl overQ setQ ?_) | refine WL.step rfl (StepTo.storeA 6 rfl rfl rfl rfl rfl rfl rfl rfl overQ setQ ?_) | refine WL.step rfl (StepTo.storeRow 6 rfl rfl rfl rfl rfl rfl rfl rfl (by omega) setQ ?_) | refine WL.step rfl (StepTo.store1 7 rfl rfl rfl rfl rfl rfl rfl overQ setQ ?_) | refine WL.step rfl (StepTo.storeA 7 rfl rfl rfl rfl rfl rfl rfl rfl overQ setQ ?_) | refine WL.step rfl (StepTo.storeRow 7 rfl rfl rfl rfl rfl rfl rfl rfl (by omega) setQ ?_) | refine WL.step rfl (StepTo.store1 8 rfl rfl rfl rfl rfl rfl rfl overQ setQ ?_) | refine WL.step rfl (StepTo.storeA 8 rfl rfl rfl rfl rfl rfl rfl rfl overQ setQ ?_) | refine WL.step rfl (StepTo.storeRow 8 rfl rfl rfl rfl rfl rfl rfl rfl (by omega) setQ ?_) | refine WL.step rfl (StepTo.store1 9 rfl rfl rfl rfl rfl rfl rfl overQ setQ ?_) | refine WL.step rfl (StepTo.storeA 9 rfl rfl rfl rfl rfl rfl rfl rfl overQ setQ ?_) | refine WL.step rfl (StepTo.storeRow 9 rfl rfl rfl rfl rfl rfl rfl rfl (by omega) setQ ?_) | refine WL.step rfl (StepTo.store1 10 rfl rfl rfl rfl rfl rfl rfl overQ setQ ?_) | refine WL.step rfl (StepTo.storeA 10 rfl rfl rfl rfl rfl rfl rfl rfl overQ setQ ?_) | refine WL.step rfl (StepTo.storeRow 10 rfl rfl rfl rfl rfl rfl rfl rfl (by omega) setQ ?_) | refine WL.step rfl (StepTo.store1 11 rfl rfl rfl rfl rfl rfl rfl overQ setQ ?_) | refine WL.step rfl (StepTo.storeA 11 rfl rfl rfl rfl rfl rfl rfl rfl overQ setQ ?_) | refine WL.step rfl (StepTo.storeRow 11 rfl rfl rfl rfl rfl rfl rfl rfl (by omega) setQ ?_))
    | with_reducible refine WC.block ?_
    | with_reducible refine WC.scope ?_
    | with_reducible refine WC.label ?_
    | with_reducible refine WQ.ngN ?_
    | with_reducible refine WQ.ngR ?_
    | with_reducible refine WQ.ngX ?_
    | with_reducible refine WC.skip ?_
    | with_reducible refine WC.ret ?_
    | with_reducible refine WC.exit ?_
    | with_reducible refine WQ.thenR ?_
    | with_reducible refine WQ.thenX ?_
    | with_reducible refine WQ.blkN ?_
    | with_reducible refine WQ.blkR ?_
    | ((with_reducible refine WQ.blkX ?_ ?_); focus rfl)
    | ((with_reducible refine WQ.blkY ?_ ?_); focus rfl)
    | refine WC.condT rfl ?_
    | refine WC.condF rfl ?_
    | refine WC.condTh rfl gdQ ?_
    | refine WC.condFh rfl gdQ ?_
    | (refine WC.cond rfl (fun hc => ?_) (fun hc => ?_) <;> (try first | (with_reducible replace hc := of_decide_eq_true hc) | (with_reducible replace hc := of_decide_eq_false hc) | (with_reducible replace hc := eqT hc) | (with_reducible replace hc := eqF hc) | (with_reducible replace hc := neT hc) | (with_reducible replace hc := neF hc) | (with_reducible replace hc := noT hc) | (with_reducible replace hc := noF hc)) <;> (try (exfalso; omega))))
    exact WQ.rnd ((dropT path ps).length - (i + 1)) _ _ [2, 1, 3, 4, 5] (by repeat (first | exact Sub.nil | refine Sub.cons rfl ?_ | refine Sub.consE rfl (int_eq (by omega)) ?_)) ⟨by decide, rfl⟩ (by omega) ⟨i + 1, ts.set j (resent to now q), Au, cu, by omega, rfl, hB', hoku, rfl, rfl⟩
  obtain rfl : i = (dropT path ps).length := by omega
  have htk : (ps.filter fun p => outB p path).take (dropT path ps).length = ps.filter fun p => outB p path := List.take_of_length_le (by omega)
  have e1 := hB.on
  have e2 := hB.all
  have e3 := hB.lost
  have s5 := lostN_sum ts
  have s6 := lostN_le ts
  rw [htk, hD] at e1 e2
  rw [hD] at e3
  repeat' (first
    | with_reducible refine WL.nil ?_
    | with_reducible refine WQ.thenN ?_
    | with_reducible refine WQ.code ?_
    | with_reducible refine WC.seq ?_
    | with_reducible refine WC.region ?_
    | ((with_reducible refine WL.isN_move ?_); first | refine WL.yld rfl (Yld.pure rfl nrmQ) ?_)
    | ((with_reducible refine WL.isN_assign ?_); first | refine WL.yld rfl (Yld.pure rfl nrmQ) ?_)
    | ((with_reducible refine WL.isN_bin ?_); first | refine WL.yld rfl (Yld.pure rfl nrmQ) ?_ | refine WL.yld rfl (Yld.rem rfl rfl rfl rfl (by omega) (by omega)) ?_ | refine WL.yld rfl (Yld.quo rfl rfl rfl rfl (by omega) (by omega) nrmQ) ?_ | refine WL.yld rfl (Yld.eqlB rfl rfl rfl rfl) ?_ | refine WL.yld rfl (Yld.neqB rfl rfl rfl rfl) ?_ | refine WL.yld rfl (Yld.eqlA 4 rfl rfl rfl (by kernel_rfl) (by kernel_rfl) rfl rfl) ?_ | refine WL.yld rfl (Yld.neqA 4 rfl rfl rfl (by kernel_rfl) (by kernel_rfl) rfl rfl) ?_ | refine WL.yld rfl (Yld.quoT rfl rfl rfl rfl (by omega) nrmQ) ?_)
    | ((with_reducible refine WL.isN_un ?_); first | refine WL.yld rfl (Yld.pure rfl nrmQ) ?_)
    | ((with_reducible refine WL.isN_extract ?_); first | refine WL.yld rfl (Yld.pure rfl nrmQ) ?_)
    | ((with_reducible refine WL.isN_load ?_); first | refine WL.yld rfl (Yld.load rfl rfl rfl rfl cellQ) ?_ | refine WL.yld rfl (Yld.loadAgg rfl rfl rfl rfl rfl aggQ) ?_)
    | ((with_reducible refine WL.isN_iaddr ?_); first | refine WL.yld rfl (Yld.indexS 0 rfl rfl rfl rfl rfl rfl (by omega)) ?_ | refine WL.yld rfl (Yld.indexS 1 rfl rfl rfl rfl rfl rfl (by omega)) ?_ | refine WL.yld rfl (Yld.indexS 2 rfl rfl rfl rfl rfl rfl (by omega)) ?_ | refine WL.yld rfl (Yld.indexS _ rfl rfl rfl rfl rfl rfl (by omega)) ?_ | refine WL.yld rfl (Yld.indexA 0 rfl rfl rfl rfl rfl rfl (by omega)) ?_ | refine WL.yld rfl (Yld.indexA 1 rfl rfl rfl rfl rfl rfl (by omega)) ?_ | refine WL.yld rfl (Yld.indexA _ rfl rfl rfl rfl rfl rfl (by omega)) ?_)
    | ((with_reducible refine WL.isN_pick ?_); first | refine WL.yld rfl (Yld.pickT rfl rfl rfl) ?_ | refine WL.yld rfl (Yld.pickF rfl rfl rfl) ?_ | refine WL.yld rfl (Yld.pickTh rfl rfl gdQ rfl) ?_ | refine WL.yld rfl (Yld.pickFh rfl rfl gdQ rfl) ?_ | refine WL.yld rfl (Yld.pickB rfl rfl rfl rfl) ?_)
    | ((with_reducible refine WL.isN_call ?_); first | refine WL.yld rfl (Yld.lenSlice rfl rfl rfl) ?_ | refine WL.yld rfl (Yld.lenStr rfl rfl rfl) ?_)
    | ((with_reducible refine WL.isT ?_); first | refine WL.skipT rfl rfl rfl rfl gdQ ?_ | refine WL.skipU rfl rfl rfl rfl ?_ | refine WL.runT rfl rfl rfl gdQ ?_ | (refine WL.cases rfl rfl rfl (fun hg => ?_) (fun hg => ?_) <;> (try first | (with_reducible replace hg := of_decide_eq_true hg) | (with_reducible replace hg := of_decide_eq_false hg) | (with_reducible replace hg := eqT hg) | (with_reducible replace hg := eqF hg) | (with_reducible replace hg := neT hg) | (with_reducible replace hg := neF hg) | (with_reducible replace hg := noT hg) | (with_reducible replace hg := noF hg)) <;> (try (exfalso; omega))))
    | ((with_reducible refine WL.isF ?_); first | refine WL.skipF rfl rfl rfl rfl gdQ ?_ | refine WL.skipU rfl rfl rfl rfl ?_ | refine WL.runF rfl rfl rfl gdQ ?_ | (refine WL.cases rfl rfl rfl (fun hg => ?_) (fun hg => ?_) <;> (try first | (with_reducible replace hg := of_decide_eq_true hg) | (with_reducible replace hg := of_decide_eq_false hg) | (with_reducible replace hg := eqT hg) | (with_reducible replace hg := eqF hg) | (with_reducible replace hg := neT hg) | (with_reducible replace hg := neF hg) | (with_reducible replace hg := noT hg) | (with_reducible replace hg := noF hg)) <;> (try (exfalso; omega))))
    | ((with_reducible refine WL.isN_box ?_); first | refine WL.step rfl (StepTo.boxA rfl rfl rfl rfl (fun _ => ?_)) | refine WL.step rfl (StepTo.box1 rfl rfl rfl rfl rfl (fun _ => ?_)))
    | ((with_reducible refine WL.isN_alloc ?_); first | refine WL.step rfl (StepTo.allocA rfl rfl rfl rfl (fun _ => ?_)) | refine WL.step rfl (StepTo.alloc1 rfl rfl rfl rfl rfl (fun _ => ?_)))
    | ((with_reducible refine WL.isN_store ?_); first | refine WL.step rfl (StepTo.store1 0 rfl rfl rfl rfl rfl rfl rfl overQ setQ ?_) | refine WL.step rfl (StepTo.storeA 0 rfl rfl rfl rfl rfl rfl rfl rfl overQ setQ ?_) | refine WL.step rfl (StepTo.storeRow 0 rfl rfl rfl rfl rfl rfl rfl rfl (by omega) setQ ?_) | refine WL.step rfl (StepTo.store1 1 rfl rfl rfl rfl rfl rfl rfl overQ setQ ?_) | refine WL.step rfl (StepTo.storeA 1 rfl rfl rfl rfl rfl rfl rfl rfl overQ setQ ?_) | refine WL.step rfl (StepTo.storeRow 1 rfl rfl rfl rfl rfl rfl rfl rfl (by omega) setQ ?_) | refine WL.step rfl (StepTo.store1 2 rfl rfl rfl rfl rfl rfl rfl overQ setQ ?_) | refine WL.step rfl (StepTo.storeA 2 rfl rfl rfl rfl rfl rfl rfl rfl overQ setQ ?_) | refine WL.step rfl (StepTo.storeRow 2 rfl rfl rfl rfl rfl rfl rfl rfl (by omega) setQ ?_) | refine WL.step rfl (StepTo.store1 3 rfl rfl rfl rfl rfl rfl rfl overQ setQ ?_) | refine WL.step rfl (StepTo.storeA 3 rfl rfl rfl rfl rfl rfl rfl rfl overQ setQ ?_) | refine WL.step rfl (StepTo.storeRow 3 rfl rfl rfl rfl rfl rfl rfl rfl (by omega) setQ ?_) | refine WL.step rfl (StepTo.store1 4 rfl rfl rfl rfl rfl rfl rfl overQ setQ ?_) | refine WL.step rfl (StepTo.storeA 4 rfl rfl rfl rfl rfl rfl rfl rfl overQ setQ ?_) | refine WL.step rfl (StepTo.storeRow 4 rfl rfl rfl rfl rfl rfl rfl rfl (by omega) setQ ?_) | refine WL.step rfl (StepTo.store1 5 rfl rfl rfl rfl rfl rfl rfl overQ setQ ?_) | refine WL.step rfl (StepTo.storeA 5 rfl rfl rfl rfl rfl rfl rfl rfl overQ setQ ?_) | refine WL.step rfl (StepTo.storeRow 5 rfl rfl rfl rfl rfl rfl rfl rfl (by omega) setQ ?_) | refine WL.step rfl (StepTo.store1 6 rfl rfl rfl rfl rfl rfl rfl overQ setQ ?_) | refine WL.step rfl (StepTo.storeA 6 rfl rfl rfl rfl rfl rfl rfl rfl overQ setQ ?_) | refine WL.step rfl (StepTo.storeRow 6 rfl rfl rfl rfl rfl rfl rfl rfl (by omega) setQ ?_) | refine WL.step rfl (StepTo.store1 7 rfl rfl rfl rfl rfl rfl rfl overQ setQ ?_) | refine WL.step rfl (StepTo.storeA 7 rfl rfl rfl rfl rfl rfl rfl rfl overQ setQ ?_) | refine WL.step rfl (StepTo.storeRow 7 rfl rfl rfl rfl rfl rfl rfl rfl (by omega) setQ ?_) | refine WL.step rfl (StepTo.store1 8 rfl rfl rfl rfl rfl rfl rfl overQ setQ ?_) | refine WL.step rfl (StepTo.storeA 8 rfl rfl rfl rfl rfl rfl rfl rfl overQ setQ ?_) | refine WL.step rfl (StepTo.storeRow 8 rfl rfl rfl rfl rfl rfl rfl rfl (by omega) setQ ?_) | refine WL.step rfl (StepTo.store1 9 rfl rfl rfl rfl rfl rfl rfl overQ setQ ?_) | refine WL.step rfl (StepTo.storeA 9 rfl rfl rfl rfl rfl rfl rfl rfl overQ setQ ?_) | refine WL.step rfl (StepTo.storeRow 9 rfl rfl rfl rfl rfl rfl rfl rfl (by omega) setQ ?_) | refine WL.step rfl (StepTo.store1 10 rfl rfl rfl rfl rfl rfl rfl overQ setQ ?_) | refine WL.step rfl (StepTo.storeA 10 rfl rfl rfl rfl rfl rfl rfl rfl overQ setQ ?_) | refine WL.step rfl (StepTo.storeRow 10 rfl rfl rfl rfl rfl rfl rfl rfl (by omega) setQ ?_) | refine WL.step rfl (StepTo.store1 11 rfl rfl rfl rfl rfl rfl rfl overQ setQ ?_) | refine WL.step rfl (StepTo.storeA 11 rfl rfl rfl rfl rfl rfl rfl rfl overQ setQ ?_) | refine WL.step rfl (StepTo.storeRow 11 rfl rfl rfl rfl rfl rfl rfl rfl (by omega) setQ ?_))
    | with_reducible refine WC.block ?_
    | with_reducible refine WC.scope ?_
    | with_reducible refine WC.label ?_
    | with_reducible refine WQ.ngN ?_
    | with_reducible refine WQ.ngR ?_
    | with_reducible refine WQ.ngX ?_
    | with_reducible refine WC.skip ?_
    | with_reducible refine WC.ret ?_
    | with_reducible refine WC.exit ?_
    | with_reducible refine WQ.thenR ?_
    | with_reducible refine WQ.thenX ?_
    | with_reducible refine WQ.blkN ?_
    | with_reducible refine WQ.blkR ?_
    | ((with_reducible refine WQ.blkX ?_ ?_); focus rfl)
    | ((with_reducible refine WQ.blkY ?_ ?_); focus rfl)
    | refine WC.condT rfl ?_
    | refine WC.condF rfl ?_
    | refine WC.condTh rfl gdQ ?_
    | refine WC.condFh rfl gdQ ?_
    | (refine WC.cond rfl (fun hc => ?_) (fun hc => ?_) <;> (try first | (with_reducible replace hc := of_decide_eq_true hc) | (with_reducible replace hc := of_decide_eq_false hc) | (with_reducible replace hc := eqT hc) | (with_reducible replace hc := eqF hc) | (with_reducible replace hc := neT hc) | (with_reducible replace hc := neF hc) | (with_reducible replace hc := noT hc) | (with_reducible replace hc := noF hc)) <;> (try (exfalso; omega))))
  refine WC.anyI [0, 3] (by kernel_rfl) ?_
  refine WA.take (idx := [0, 3]) 0 rfl (by kernel_rfl) (by kernel_rfl) (by kernel_rfl) rfl ⟨by decide, rfl⟩ (by first | exact Yld.load rfl rfl rfl rfl cellQ | exact Yld.loadAgg rfl rfl rfl rfl rfl aggQ) ?_
  refine WA.take (idx := [0, 3]) 1 rfl (by kernel_rfl) (by kernel_rfl) (by kernel_rfl) rfl ⟨by decide, rfl⟩ (Yld.pure rfl nrmQ) ?_
  refine WA.take (idx := [0, 3]) 3 rfl (by kernel_rfl) (by kernel_rfl) (by kernel_rfl) rfl ⟨by decide, rfl⟩ (Yld.pure rfl nrmQ) ?_
  refine WA.take (idx := [0, 3]) 4 rfl (by kernel_rfl) (by kernel_rfl) (by kernel_rfl) rfl ⟨by decide, rfl⟩ (Yld.pure rfl nrmQ) ?_
  refine WA.take (idx := [0, 3]) 5 rfl (by kernel_rfl) (by kernel_rfl) (by kernel_rfl) rfl ⟨by decide, rfl⟩ (by first | exact Yld.pure rfl nrmQ | exact Yld.rem rfl rfl rfl rfl (by omega) (by omega) | exact Yld.quo rfl rfl rfl rfl (by omega) (by omega) nrmQ | exact Yld.eqlB rfl rfl rfl rfl | exact Yld.neqB rfl rfl rfl rfl | exact Yld.eqlA 4 rfl rfl rfl (by kernel_rfl) (by kernel_rfl) rfl rfl | exact Yld.neqA 4 rfl rfl rfl (by kernel_rfl) (by kernel_rfl) rfl rfl | exact Yld.quoT rfl rfl rfl rfl (by omega) nrmQ) ?_
  refine WA.one 2 (by kernel_rfl) rfl rfl ?_
  refine StepTo.callV (v := .int .i64 (underF to ts)) (us := [.agg #[.int .u32 cum, .slice At ps.length ct], .int .i64 to]) rfl rfl rfl rfl rfl (by kernel_rfl) (fun w hw => under_q cum At ps.length ct ts to w (hw.lst 1 Pc.cs_len (by omega) rfl) hst (by omega)) ⟨⟨[0, 3], by decide, rfl⟩, ?_⟩
  refine WA.take (idx := [0, 3]) 6 rfl (by kernel_rfl) (by kernel_rfl) (by kernel_rfl) rfl ⟨by decide, rfl⟩ (by first | exact Yld.pure rfl nrmQ | exact Yld.rem rfl rfl rfl rfl (by omega) (by omega) | exact Yld.quo rfl rfl rfl rfl (by omega) (by omega) nrmQ | exact Yld.eqlB rfl rfl rfl rfl | exact Yld.neqB rfl rfl rfl rfl | exact Yld.eqlA 4 rfl rfl rfl (by kernel_rfl) (by kernel_rfl) rfl rfl | exact Yld.neqA 4 rfl rfl rfl (by kernel_rfl) (by kernel_rfl) rfl rfl | exact Yld.quoT rfl rfl rfl rfl (by omega) nrmQ) ?_
  refine WA.take (idx := [0, 3]) 7 rfl (by kernel_rfl) (by kernel_rfl) (by kernel_rfl) rfl ⟨by decide, rfl⟩ (Yld.pure rfl nrmQ) ?_
  first | refine WA.skip (idx := [0, 3]) 8 rfl (by kernel_rfl) (by kernel_rfl) (by kernel_rfl) rfl ⟨by decide, rfl⟩ rfl rfl rfl gdQ ?_ | refine WA.takeG (idx := [0, 3]) 8 rfl (by kernel_rfl) (by kernel_rfl) (by kernel_rfl) rfl ⟨by decide, rfl⟩ rfl rfl rfl gdQ (by first | exact Yld.load rfl rfl rfl rfl cellQ | exact Yld.loadAgg rfl rfl rfl rfl rfl aggQ) ?_
  first | refine WA.skip (idx := [0, 3]) 10 rfl (by kernel_rfl) (by kernel_rfl) (by kernel_rfl) rfl ⟨by decide, rfl⟩ rfl rfl rfl gdQ ?_ | refine WA.takeG (idx := [0, 3]) 10 rfl (by kernel_rfl) (by kernel_rfl) (by kernel_rfl) rfl ⟨by decide, rfl⟩ rfl rfl rfl gdQ (by first | exact Yld.load rfl rfl rfl rfl cellQ | exact Yld.loadAgg rfl rfl rfl rfl rfl aggQ) ?_
  refine WA.oneW 9 (by kernel_rfl) rfl (.inr ⟨_, _, _, _, _, rfl, rfl, rfl, rfl, gdQ⟩) ?_
  refine StepTo.callV (v := .int .i64 (underF (-1) ts)) (us := [.agg #[.int .u32 cum, .slice At ps.length ct], .int .i64 (-1)]) rfl rfl rfl rfl rfl (by kernel_rfl) (fun w hw => under_q cum At ps.length ct ts (-1) w (hw.lst 1 Pc.cs_len (by omega) rfl) hst (by omega)) ⟨⟨[0, 3], by decide, rfl⟩, ?_⟩
  refine WA.oneW 11 (by kernel_rfl) rfl (.inr ⟨_, _, _, _, _, rfl, rfl, rfl, rfl, gdQ⟩) ?_
  refine StepTo.callV (v := .int .i64 (underF (-1) ps)) (us := [.agg #[.int .u32 cum, .slice A ps.length c], .int .i64 (-1)]) rfl rfl rfl rfl rfl (by kernel_rfl) (fun w hw => under_q cum A ps.length c ps (-1) w (hw.lst 4 Pc.cs_len (by omega) rfl) hs (by omega)) ⟨⟨[0, 3], by decide, rfl⟩, ?_⟩
  first | refine WA.skip (idx := [0, 3]) 12 rfl (by kernel_rfl) (by kernel_rfl) (by kernel_rfl) rfl ⟨by decide, rfl⟩ rfl rfl rfl gdQ ?_ | refine WA.takeG (idx := [0, 3]) 12 rfl (by kernel_rfl) (by kernel_rfl) (by kernel_rfl) rfl ⟨by decide, rfl⟩ rfl rfl rfl gdQ (by first | exact Yld.pure rfl nrmQ | exact Yld.rem rfl rfl rfl rfl (by omega) (by omega) | exact Yld.quo rfl rfl rfl rfl (by omega) (by omega) nrmQ | exact Yld.eqlB rfl rfl rfl rfl | exact Yld.neqB rfl rfl rfl rfl | exact Yld.eqlA 4 rfl rfl rfl (by kernel_rfl) (by kernel_rfl) rfl rfl | exact Yld.neqA 4 rfl rfl rfl (by kernel_rfl) (by kernel_rfl) rfl rfl | exact Yld.quoT rfl rfl rfl rfl (by omega) nrmQ) ?_
  refine WA.take (idx := [0, 3]) 13 rfl (by kernel_rfl) (by kernel_rfl) (by kernel_rfl) rfl ⟨by decide, rfl⟩ (by first | exact Yld.pickT rfl rfl rfl | exact Yld.pickF rfl rfl rfl | exact Yld.pickTh rfl rfl gdQ rfl | exact Yld.pickFh rfl rfl gdQ rfl | exact Yld.pickB rfl rfl rfl rfl) ?_
  refine WA.take (idx := [0, 3]) 14 rfl (by kernel_rfl) (by kernel_rfl) (by kernel_rfl) rfl ⟨by decide, rfl⟩ (Yld.pure rfl nrmQ) ?_
  first | refine WA.skip (idx := [0, 3]) 15 rfl (by kernel_rfl) (by kernel_rfl) (by kernel_rfl) rfl ⟨by decide, rfl⟩ rfl rfl rfl gdQ ?_ | refine WA.takeG (idx := [0, 3]) 15 rfl (by kernel_rfl) (by kernel_rfl) (by kernel_rfl) rfl ⟨by decide, rfl⟩ rfl rfl rfl gdQ (by first | exact Yld.load rfl rfl rfl rfl cellQ | exact Yld.loadAgg rfl rfl rfl rfl rfl aggQ) ?_
  first | refine WA.skip (idx := [0, 3]) 18 rfl (by kernel_rfl) (by kernel_rfl) (by kernel_rfl) rfl ⟨by decide, rfl⟩ rfl rfl rfl gdQ ?_ | refine WA.takeG (idx := [0, 3]) 18 rfl (by kernel_rfl) (by kernel_rfl) (by kernel_rfl) rfl ⟨by decide, rfl⟩ rfl rfl rfl gdQ (Yld.pure rfl nrmQ) ?_
  refine WA.oneW 16 (by kernel_rfl) rfl (.inr ⟨_, _, _, _, _, rfl, rfl, rfl, rfl, gdQ⟩) ?_
  refine StepTo.callN [] (us := [.agg #[.int .u32 cum, .slice At ps.length ct]]) rfl rfl rfl rfl rfl (by kernel_rfl) (fun w hw => losses_w cum At ps.length ct ts w (hw.lst 1 Pc.cs_len (by omega) rfl) (by omega)) ?_
  rintro v N ⟨A5, c5, rfl, rfl⟩
  refine ⟨⟨[1, 4], by decide, rfl⟩, ?_⟩
  first | refine WA.skip (idx := [1, 4]) 17 rfl (by kernel_rfl) (by kernel_rfl) (by kernel_rfl) rfl ⟨by decide, rfl⟩ rfl rfl rfl gdQ ?_ | refine WA.takeG (idx := [1, 4]) 17 rfl (by kernel_rfl) (by kernel_rfl) (by kernel_rfl) rfl ⟨by decide, rfl⟩ rfl rfl rfl gdQ (by first | exact Yld.lenSlice rfl rfl rfl | exact Yld.lenStr rfl rfl rfl) ?_
  first | refine WA.skip (idx := [1, 4]) 19 rfl (by kernel_rfl) (by kernel_rfl) (by kernel_rfl) rfl ⟨by decide, rfl⟩ rfl rfl rfl gdQ ?_ | refine WA.takeG (idx := [1, 4]) 19 rfl (by kernel_rfl) (by kernel_rfl) (by kernel_rfl) rfl ⟨by decide, rfl⟩ rfl rfl rfl gdQ (by first | exact Yld.pure rfl nrmQ | exact Yld.rem rfl rfl rfl rfl (by omega) (by omega) | exact Yld.quo rfl rfl rfl rfl (by omega) (by omega) nrmQ | exact Yld.eqlB rfl rfl rfl rfl | exact Yld.neqB rfl rfl rfl rfl | exact Yld.eqlA 4 rfl rfl rfl (by kernel_rfl) (by kernel_rfl) rfl rfl | exact Yld.neqA 4 rfl rfl rfl (by kernel_rfl) (by kernel_rfl) rfl rfl | exact Yld.quoT rfl rfl rfl rfl (by omega) nrmQ) ?_
  refine WA.take (idx := [1, 4]) 20 rfl (by kernel_rfl) (by kernel_rfl) (by kernel_rfl) rfl ⟨by decide, rfl⟩ (by first | exact Yld.pickT rfl rfl rfl | exact Yld.pickF rfl rfl rfl | exact Yld.pickTh rfl rfl gdQ rfl | exact Yld.pickFh rfl rfl gdQ rfl | exact Yld.pickB rfl rfl rfl rfl) ?_
  refine WA.take (idx := [1, 4]) 21 rfl (by kernel_rfl) (by kernel_rfl) (by kernel_rfl) rfl ⟨by decide, rfl⟩ (Yld.pure rfl nrmQ) ?_
  first | refine WA.skip (idx := [1, 4]) 22 rfl (by kernel_rfl) (by kernel_rfl) (by kernel_rfl) rfl ⟨by decide, rfl⟩ rfl rfl rfl gdQ ?_ | refine WA.takeG (idx := [1, 4]) 22 rfl (by kernel_rfl) (by kernel_rfl) (by kernel_rfl) rfl ⟨by decide, rfl⟩ rfl rfl rfl gdQ (by first | exact Yld.load rfl rfl rfl rfl cellQ | exact Yld.loadAgg rfl rfl rfl rfl rfl aggQ) ?_
  first | refine WA.skip (idx := [1, 4]) 24 rfl (by kernel_rfl) (by kernel_rfl) (by kernel_rfl) rfl ⟨by decide, rfl⟩ rfl rfl rfl gdQ ?_ | refine WA.takeG (idx := [1, 4]) 24 rfl (by kernel_rfl) (by kernel_rfl) (by kernel_rfl) rfl ⟨by decide, rfl⟩ rfl rfl rfl gdQ (by first | exact Yld.load rfl rfl rfl rfl cellQ | exact Yld.loadAgg rfl rfl rfl rfl rfl aggQ) ?_
  refine WA.oneW 23 (by kernel_rfl) rfl (.inr ⟨_, _, _, _, _, rfl, rfl, rfl, rfl, gdQ⟩) ?_
  refine StepTo.callV (v := .int .u32 ((cum + ps.length + 1) % 4294967296)) (us := [.agg #[.int .u32 cum, .slice At ps.length ct]]) rfl rfl rfl rfl rfl (by kernel_rfl) (fun w hw => next_q cum At ps.length ct w (by omega)) ⟨⟨[1, 4], by decide, rfl⟩, ?_⟩
  refine WA.oneW 25 (by kernel_rfl) rfl (.inr ⟨_, _, _, _, _, rfl, rfl, rfl, rfl, gdQ⟩) ?_
  refine StepTo.callV (v := .int .u32 ((cum + ps.length + 1) % 4294967296)) (us := [.agg #[.int .u32 cum, .slice A ps.length c]]) rfl rfl rfl rfl rfl (by kernel_rfl) (fun w hw => next_q cum A ps.length c w (by omega)) ⟨⟨[1, 4], by decide, rfl⟩, ?_⟩
  first | refine WA.skip (idx := [1, 4]) 26 rfl (by kernel_rfl) (by kernel_rfl) (by kernel_rfl) rfl ⟨by decide, rfl⟩ rfl rfl rfl gdQ ?_ | refine WA.takeG (idx := [1, 4]) 26 rfl (by kernel_rfl) (by kernel_rfl) (by kernel_rfl) rfl ⟨by decide, rfl⟩ rfl rfl rfl gdQ (by first | exact Yld.pure rfl nrmQ | exact Yld.rem rfl rfl rfl rfl (by omega) (by omega) | exact Yld.quo rfl rfl rfl rfl (by omega) (by omega) nrmQ | exact Yld.eqlB rfl rfl rfl rfl | exact Yld.neqB rfl rfl rfl rfl | exact Yld.eqlA 4 rfl rfl rfl (by kernel_rfl) (by kernel_rfl) rfl rfl | exact Yld.neqA 4 rfl rfl rfl (by kernel_rfl) (by kernel_rfl) rfl rfl | exact Yld.quoT rfl rfl rfl rfl (by omega) nrmQ) ?_
  refine WA.take (idx := [1, 4]) 27 rfl (by kernel_rfl) (by kernel_rfl) (by kernel_rfl) rfl ⟨by decide, rfl⟩ (by first | exact Yld.pickT rfl rfl rfl | exact Yld.pickF rfl rfl rfl | exact Yld.pickTh rfl rfl gdQ rfl | exact Yld.pickFh rfl rfl gdQ rfl | exact Yld.pickB rfl rfl rfl rfl) ?_
  refine WA.take (idx := [1, 4]) 28 rfl (by kernel_rfl) (by kernel_rfl) (by kernel_rfl) rfl ⟨by decide, rfl⟩ (Yld.pure rfl nrmQ) ?_
  refine WA.done (by kernel_rfl) ?_
  repeat' (first
    | with_reducible refine WL.nil ?_
    | with_reducible refine WQ.thenN ?_
    | with_reducible refine WQ.code ?_
    | with_reducible refine WC.seq ?_
    | with_reducible refine WC.region ?_
    | ((with_reducible refine WL.isN_move ?_); first | refine WL.yld rfl (Yld.pure rfl nrmQ) ?_)
    | ((with_reducible refine WL.isN_assign ?_); first | refine WL.yld rfl (Yld.pure rfl nrmQ) ?_)
    | ((with_reducible refine WL.isN_bin ?_); first | refine WL.yld rfl (Yld.pure rfl nrmQ) ?_ | refine WL.yld rfl (Yld.rem rfl rfl rfl rfl (by omega) (by omega)) ?_ | refine WL.yld rfl (Yld.quo rfl rfl rfl rfl (by omega) (by omega) nrmQ) ?_ | refine WL.yld rfl (Yld.eqlB rfl rfl rfl rfl) ?_ | refine WL.yld rfl (Yld.neqB rfl rfl rfl rfl) ?_ | refine WL.yld rfl (Yld.eqlA 4 rfl rfl rfl (by kernel_rfl) (by kernel_rfl) rfl rfl) ?_ | refine WL.yld rfl (Yld.neqA 4 rfl rfl rfl (by kernel_rfl) (by kernel_rfl) rfl rfl) ?_ | refine WL.yld rfl (Yld.quoT rfl rfl rfl rfl (by omega) nrmQ) ?_)
    | ((with_reducible refine WL.isN_un ?_); first | refine WL.yld rfl (Yld.pure rfl nrmQ) ?_)
    | ((with_reducible refine WL.isN_extract ?_); first | refine WL.yld rfl (Yld.pure rfl nrmQ) ?_)
    | ((with_reducible refine WL.isN_load ?_); first | refine WL.yld rfl (Yld.load rfl rfl rfl rfl cellQ) ?_ | refine WL.yld rfl (Yld.loadAgg rfl rfl rfl rfl rfl aggQ) ?_)
    | ((with_reducible refine WL.isN_iaddr ?_); first | refine WL.yld rfl (Yld.indexS 0 rfl rfl rfl rfl rfl rfl (by omega)) ?_ | refine WL.yld rfl (Yld.indexS 1 rfl rfl rfl rfl rfl rfl (by omega)) ?_ | refine WL.yld rfl (Yld.indexS 2 rfl rfl rfl rfl rfl rfl (by omega)) ?_ | refine WL.yld rfl (Yld.indexS _ rfl rfl rfl rfl rfl rfl (by omega)) ?_ | refine WL.yld rfl (Yld.indexA 0 rfl rfl rfl rfl rfl rfl (by omega)) ?_ | refine WL.yld rfl (Yld.indexA 1 rfl rfl rfl rfl rfl rfl (by omega)) ?_ | refine WL.yld rfl (Yld.indexA _ rfl rfl rfl rfl rfl rfl (by omega)) ?_)
    | ((with_reducible refine WL.isN_pick ?_); first | refine WL.yld rfl (Yld.pickT rfl rfl rfl) ?_ | refine WL.yld rfl (Yld.pickF rfl rfl rfl) ?_ | refine WL.yld rfl (Yld.pickTh rfl rfl gdQ rfl) ?_ | refine WL.yld rfl (Yld.pickFh rfl rfl gdQ rfl) ?_ | refine WL.yld rfl (Yld.pickB rfl rfl rfl rfl) ?_)
    | ((with_reducible refine WL.isN_call ?_); first | refine WL.yld rfl (Yld.lenSlice rfl rfl rfl) ?_ | refine WL.yld rfl (Yld.lenStr rfl rfl rfl) ?_)
    | ((with_reducible refine WL.isT ?_); first | refine WL.skipT rfl rfl rfl rfl gdQ ?_ | refine WL.skipU rfl rfl rfl rfl ?_ | refine WL.runT rfl rfl rfl gdQ ?_ | (refine WL.cases rfl rfl rfl (fun hg => ?_) (fun hg => ?_) <;> (try first | (with_reducible replace hg := of_decide_eq_true hg) | (with_reducible replace hg := of_decide_eq_false hg) | (with_reducible replace hg := eqT hg) | (with_reducible replace hg := eqF hg) | (with_reducible replace hg := neT hg) | (with_reducible replace hg := neF hg) | (with_reducible replace hg := noT hg) | (with_reducible replace hg := noF hg)) <;> (try (exfalso; omega))))
    | ((with_reducible refine WL.isF ?_); first | refine WL.skipF rfl rfl rfl rfl gdQ ?_ | refine WL.skipU rfl rfl rfl rfl ?_ | refine WL.runF rfl rfl rfl gdQ ?_ | (refine WL.cases rfl rfl rfl (fun hg => ?_) (fun hg => ?_) <;> (try first | (with_reducible replace hg := of_decide_eq_true hg) | (with_reducible replace hg := of_decide_eq_false hg) | (with_reducible replace hg := eqT hg) | (with_reducible replace hg := eqF hg) | (with_reducible replace hg := neT hg) | (with_reducible replace hg := neF hg) | (with_reducible replace hg := noT hg) | (with_reducible replace hg := noF hg)) <;> (try (exfalso; omega))))
    | ((with_reducible refine WL.isN_box ?_); first | refine WL.step rfl (StepTo.boxA rfl rfl rfl rfl (fun _ => ?_)) | refine WL.step rfl (StepTo.box1 rfl rfl rfl rfl rfl (fun _ => ?_)))
    | ((with_reducible refine WL.isN_alloc ?_); first | refine WL.step rfl (StepTo.allocA rfl rfl rfl rfl (fun _ => ?_)) | refine WL.step rfl (StepTo.alloc1 rfl rfl rfl rfl rfl (fun _ => ?_)))
    | ((with_reducible refine WL.isN_store ?_); first | refine WL.step rfl (StepTo.store1 0 rfl rfl rfl rfl rfl rfl rfl overQ setQ ?_) | refine WL.step rfl (StepTo.storeA 0 rfl rfl rfl rfl rfl rfl rfl rfl overQ setQ ?_) | refine WL.step rfl (StepTo.storeRow 0 rfl rfl rfl rfl rfl rfl rfl rfl (by omega) setQ ?_) | refine WL.step rfl (StepTo.store1 1 rfl rfl rfl rfl rfl rfl rfl overQ setQ ?_) | refine WL.step rfl (StepTo.storeA 1 rfl rfl rfl rfl rfl rfl rfl rfl overQ setQ ?_) | refine WL.step rfl (StepTo.storeRow 1 rfl rfl rfl rfl rfl rfl rfl rfl (by omega) setQ ?_) | refine WL.step rfl (StepTo.store1 2 rfl rfl rfl rfl rfl rfl rfl overQ setQ ?_) | refine WL.step rfl (StepTo.storeA 2 rfl rfl rfl rfl rfl rfl rfl rfl overQ setQ ?_) | refine WL.step rfl (StepTo.storeRow 2 rfl rfl rfl rfl rfl rfl rfl rfl (by omega) setQ ?_) | refine WL.step rfl (StepTo.store1 3 rfl rfl rfl rfl rfl rfl rfl overQ setQ ?_) | refine WL.step rfl (StepTo.storeA 3 rfl rfl rfl rfl rfl rfl rfl rfl overQ setQ ?_) | refine WL.step rfl (StepTo.storeRow 3 rfl rfl rfl rfl rfl rfl rfl rfl (by omega) setQ ?_) | refine WL.step rfl (StepTo.store1 4 rfl rfl rfl rfl rfl rfl rfl overQ setQ ?_) | refine WL.step rfl (StepTo.storeA 4 rfl rfl rfl rfl rfl rfl rfl rfl overQ setQ ?_) | refine WL.step rfl (StepTo.storeRow 4 rfl rfl rfl rfl rfl rfl rfl rfl (by omega) setQ ?_) | refine WL.step rfl (StepTo.store1 5 rfl rfl rfl rfl rfl rfl rfl overQ setQ ?_) | refine WL.step rfl (StepTo.storeA 5 rfl rfl rfl rfl rfl rfl rfl rfl overQ setQ ?_) | refine WL.step rfl (StepTo.storeRow 5 rfl rfl rfl rfl rfl rfl rfl rfl (by omega) setQ ?_) | refine WL.step rfl (StepTo.store1 6 rfl rfl rfl rfl rfl rfl rfl overQ setQ ?_) | refine WL.step rfl (StepTo.storeA 6 rfl rfl rfl rfl rfl rfl rfl rfl overQ setQ ?_) | refine WL.step rfl (StepTo.storeRow 6 rfl rfl rfl rfl rfl rfl rfl rfl (by omega) setQ ?_) | refine WL.step rfl (StepTo.store1 7 rfl rfl rfl rfl rfl rfl rfl overQ setQ ?_) | refine WL.step rfl (StepTo.storeA 7 rfl rfl rfl rfl rfl rfl rfl rfl overQ setQ ?_) | refine WL.step rfl (StepTo.storeRow 7 rfl rfl rfl rfl rfl rfl rfl rfl (by omega) setQ ?_) | refine WL.step rfl (StepTo.store1 8 rfl rfl rfl rfl rfl rfl rfl overQ setQ ?_) | refine WL.step rfl (StepTo.storeA 8 rfl rfl rfl rfl rfl rfl rfl rfl overQ setQ ?_) | refine WL.step rfl (StepTo.storeRow 8 rfl rfl rfl rfl rfl rfl rfl rfl (by omega) setQ ?_) | refine WL.step rfl (StepTo.store1 9 rfl rfl rfl rfl rfl rfl rfl overQ setQ ?_) | refine WL.step rfl (StepTo.storeA 9 rfl rfl rfl rfl rfl rfl rfl rfl overQ setQ ?_) | refine WL.step rfl (StepTo.storeRow 9 rfl rfl rfl rfl rfl rfl rfl rfl (by omega) setQ ?_) | refine WL.step rfl (StepTo.store1 10 rfl rfl rfl rfl rfl rfl rfl overQ setQ ?_) | refine WL.step rfl (StepTo.storeA 10 rfl rfl rfl rfl rfl rfl rfl rfl overQ setQ ?_) | refine WL.step rfl (StepTo.storeRow 10 rfl rfl rfl rfl rfl rfl rfl rfl (by omega) setQ ?_) | refine WL.step rfl (StepTo.store1 11 rfl rfl rfl rfl rfl rfl rfl overQ setQ ?_) | refine WL.step rfl (StepTo.storeA 11 rfl rfl rfl rfl rfl rfl rfl rfl overQ setQ ?_) | refine WL.step rfl (StepTo.storeRow 11 rfl rfl rfl rfl rfl rfl rfl rfl (by omega) setQ ?_))
    | with_reducible refine WC.block ?_
    | with_reducible refine WC.scope ?_
    | with_reducible refine WC.label ?_
    | with_reducible refine WQ.ngN ?_
    | with_reducible refine WQ.ngR ?_
    | with_reducible refine WQ.ngX ?_
    | with_reducible refine WC.skip ?_
    | with_reducible refine WC.ret ?_
    | with_reducible refine WC.exit ?_
    | with_reducible refine WQ.thenR ?_
    | with_reducible refine WQ.thenX ?_
    | with_reducible refine WQ.blkN ?_
    | with_reducible refine WQ.blkR ?_
    | ((with_reducible refine WQ.blkX ?_ ?_); focus rfl)
    | ((with_reducible refine WQ.blkY ?_ ?_); focus rfl)
    | refine WC.condT rfl ?_
    | refine WC.condF rfl ?_
    | refine WC.condTh rfl gdQ ?_
    | refine WC.condFh rfl gdQ ?_
    | (refine WC.cond rfl (fun hc => ?_) (fun hc => ?_) <;> (try first | (with_reducible replace hc := of_decide_eq_true hc) | (with_reducible replace hc := of_decide_eq_false hc) | (with_reducible replace hc := eqT hc) | (with_reducible replace hc := eqF hc) | (with_reducible replace hc := neT hc) | (with_reducible replace hc := neF hc) | (with_reducible replace hc := noT hc) | (with_reducible replace hc := noF hc)) <;> (try (exfalso; omega)))
    | exact WQ.body (Reads.tmp rfl rfl) (fun _ hw' => ⟨ret_bool gdQ, hw'.ext.below⟩))
theorem sentLosses_walk (cum : Int) (A : Option Addr) (n c : Nat) (ps : List Pc) (path to now : Int) (w : World) (w0 : (Lit.int .u32 cum).wf = true) (hL : Ps w w.heap.size A n ps) (hA : okA A n) (hcap : n ≤ c) (hby : n * 56 ≤ 140737488355328)
    (w1 : (Lit.int .i64 path).wf = true) (w2 : (Lit.int .i64 to).wf = true) (w3 : (Lit.int .i64 now).wf = true) :
    Calls Try.prog 6 #[.agg #[.int .u32 cum, .slice A n c], .int .i64 path, .int .i64 to, .int .i64 now] w
      fun e w' => e = .returned (.bool true) ∧ Below w.heap.size w w' :=
  sentLosses_any cum A n c ps path to now w hL hA hcap hby
end Go.Proofs.Ythpllkegmjcfaaa
