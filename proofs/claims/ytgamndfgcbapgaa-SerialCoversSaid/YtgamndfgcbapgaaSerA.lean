/- How two numbers stand: the law that compares the program's answers with the document's. -/
import Derived.Test.YtgamndfgcbapgaaSerH
import Derived.Test.YtgamndfgcbapgaaOpen
namespace Go.Proofs.Ytgamndfgcbapgaa
open Go.RowKit
open Go.Proofs.Ytgamndfgcbapgaa.Ser
set_option linter.unusedVariables false
set_option maxRecDepth 100000

theorem Yld.to {P : Program} {w0 : World} {D : Nat → Prop} {n : Nat} {o : Oper} {τ : Tm} {H : List Item} {v v' : Value} (h : Yld P w0 D n o τ H v) (e : v = v') : Yld P w0 D n o τ H v' := e ▸ h
theorem ru_wf {x : Int} (h : (Lit.int .u32 x).wf = true) : RU x := bounds_u32 h
theorem ru6_wf {x : Int} (h : (Lit.int .u16 x).wf = true) : RU6 x := bounds_u16 h
theorem later_or (a b : Int) : laterF a b = b ∨ laterF a b = a := by
  unfold laterF
  split
  · exact .inl rfl
  · exact .inr rfl

set_option maxHeartbeats 4000000 in
theorem serialStands_walk (a b c d : Int) (w : World) (w0 : (Lit.int .u32 a).wf = true) (w1 : (Lit.int .u32 b).wf = true) (w2 : (Lit.int .u16 c).wf = true) (w3 : (Lit.int .u16 d).wf = true) :
    Calls Try.prog 8 #[.int .u32 a, .int .u32 b, .int .u16 c, .int .u16 d] w fun e w' => e = .returned (.bool true) ∧ Below w.heap.size w w' := by
  have ha := ru_wf w0
  have hb := ru_wf w1
  have hc := ru6_wf w2
  have hd := ru6_wf w3
  have hL : RU (laterF a b) := by rcases later_or a b with h | h <;> rw [h] <;> assumption
  have q1 := fun w => Before_q a b w
  have r1 := fun w => rbefore_q a b w ha hb
  have q2 := fun w => Dist_q a b w
  have r2 := fun w => rDist_q a b w ha hb
  have q3 := fun w => later_q a b w
  have r3 := fun w => rlater_q a b w ha hb
  have q4 := fun w => Before16_q c d w
  have r4 := fun w => rbefore6_q c d w hc hd
  have q5 := fun w => Dist16_q c d w
  have r5 := fun w => rDist6_q c d w hc hd
  generalize decide (0 < sd32 (b - a)) = B1 at *
  generalize decide (0 < sd16 (d - c)) = B2 at *
  generalize sd32 (b - a) = D1 at *
  generalize sd16 (d - c) = D2 at *
  generalize laterF a b = L1 at *
  have e1 : (B1 == B1) = true := by cases B1 <;> rfl
  have e2 : (B2 == B2) = true := by cases B2 <;> rfl
  unfold RU RU6 at *
  clear w0 w1 w2 w3
  refine enterW (fun _ => False) _ Try.func8 rfl (by simp only [Try.ntmps8, List.length_cons, List.length_nil, Nat.reduceAdd, Nat.reduceSub]; rfl) ?_
  repeat' (first
    | with_reducible refine WL.nil ?_
    | with_reducible refine WQ.thenN ?_
    | with_reducible refine WQ.code ?_
    | with_reducible refine WC.seq ?_
    | with_reducible refine WC.region ?_
    | ((with_reducible refine WL.isN_move ?_); first | refine WL.yld rfl (Yld.pure rfl nrmQ) ?_)
    | ((with_reducible refine WL.isN_assign ?_); first | refine WL.yld rfl (Yld.pure rfl nrmQ) ?_)
    | ((with_reducible refine WL.isN_bin ?_); first | refine WL.yld rfl (Yld.eqlB rfl rfl rfl rfl) ?_ | refine WL.yld rfl (Yld.pure rfl nrmQ) ?_ | refine WL.yld rfl (Yld.rem rfl rfl rfl rfl (by omega) (by omega)) ?_ | refine WL.yld rfl (Yld.quo rfl rfl rfl rfl (by omega) (by omega) nrmQ) ?_ | refine WL.yld rfl (Yld.eqlB rfl rfl rfl rfl) ?_ | refine WL.yld rfl (Yld.neqB rfl rfl rfl rfl) ?_ | refine WL.yld rfl (Yld.eqlA 4 rfl rfl rfl (by kernel_rfl) (by kernel_rfl) rfl rfl) ?_ | refine WL.yld rfl (Yld.neqA 4 rfl rfl rfl (by kernel_rfl) (by kernel_rfl) rfl rfl) ?_ | refine WL.yld rfl (Yld.quoT rfl rfl rfl rfl (by omega) nrmQ) ?_)
    | ((with_reducible refine WL.isN_conv ?_); first | refine WL.yld rfl (Yld.convInt rfl rfl rfl rfl nrmQ) ?_)
    | ((with_reducible refine WL.isN_pick ?_); first | refine WL.yld rfl (Yld.pickT rfl rfl rfl) ?_ | refine WL.yld rfl (Yld.pickF rfl rfl rfl) ?_ | refine WL.yld rfl (Yld.pickTh rfl rfl gdQ rfl) ?_ | refine WL.yld rfl (Yld.pickFh rfl rfl gdQ rfl) ?_ | refine WL.yld rfl (Yld.pickB rfl rfl rfl rfl) ?_)
    | ((with_reducible refine WL.isN_call ?_); first | refine WL.step rfl (StepTo.callV (v := .bool true) (us := []) rfl rfl rfl rfl rfl (by kernel_rfl) (fun w _ => shown_q w) ?_) | refine WL.step rfl (StepTo.callV (v := .bool B1) (us := [.int .u32 a, .int .u32 b]) rfl rfl rfl rfl rfl (by kernel_rfl) (fun w _ => q1 w) ?_) | refine WL.step rfl (StepTo.callV (v := .bool B1) (us := [.int .i64 a, .int .i64 b]) rfl rfl rfl rfl rfl (by kernel_rfl) (fun w _ => r1 w) ?_) | refine WL.step rfl (StepTo.callV (v := .int .i64 D1) (us := [.int .u32 a, .int .u32 b]) rfl rfl rfl rfl rfl (by kernel_rfl) (fun w _ => q2 w) ?_) | refine WL.step rfl (StepTo.callV (v := .int .i64 D1) (us := [.int .i64 a, .int .i64 b]) rfl rfl rfl rfl rfl (by kernel_rfl) (fun w _ => r2 w) ?_) | refine WL.step rfl (StepTo.callV (v := .int .u32 L1) (us := [.int .u32 a, .int .u32 b]) rfl rfl rfl rfl rfl (by kernel_rfl) (fun w _ => q3 w) ?_) | refine WL.step rfl (StepTo.callV (v := .int .i64 L1) (us := [.int .i64 a, .int .i64 b]) rfl rfl rfl rfl rfl (by kernel_rfl) (fun w _ => r3 w) ?_) | refine WL.step rfl (StepTo.callV (v := .bool B2) (us := [.int .u16 c, .int .u16 d]) rfl rfl rfl rfl rfl (by kernel_rfl) (fun w _ => q4 w) ?_) | refine WL.step rfl (StepTo.callV (v := .bool B2) (us := [.int .i64 c, .int .i64 d]) rfl rfl rfl rfl rfl (by kernel_rfl) (fun w _ => r4 w) ?_) | refine WL.step rfl (StepTo.callV (v := .int .i64 D2) (us := [.int .u16 c, .int .u16 d]) rfl rfl rfl rfl rfl (by kernel_rfl) (fun w _ => q5 w) ?_) | refine WL.step rfl (StepTo.callV (v := .int .i64 D2) (us := [.int .i64 c, .int .i64 d]) rfl rfl rfl rfl rfl (by kernel_rfl) (fun w _ => r5 w) ?_))
    | ((with_reducible refine WL.isT ?_); first | refine WL.skipT rfl rfl rfl rfl gdQ ?_ | refine WL.skipU rfl rfl rfl rfl ?_ | refine WL.runT rfl rfl rfl gdQ ?_)
    | ((with_reducible refine WL.isF ?_); first | refine WL.skipF rfl rfl rfl rfl gdQ ?_ | refine WL.skipU rfl rfl rfl rfl ?_ | refine WL.runF rfl rfl rfl gdQ ?_)
    | with_reducible refine WC.block ?_
    | with_reducible refine WC.scope ?_
    | with_reducible refine WC.label ?_
    | with_reducible refine WQ.ngN ?_
    | with_reducible refine WQ.ngR ?_
    | with_reducible refine WQ.ngX ?_
    | with_reducible refine WC.skip ?_
    | with_reducible refine WC.ret ?_
    | with_reducible refine WC.exit ?_
    | with_reducible refine WQ.thenR ?_
    | with_reducible refine WQ.thenX ?_
    | with_reducible refine WQ.blkN ?_
    | with_reducible refine WQ.blkR ?_
    | ((with_reducible refine WQ.blkX ?_ ?_); focus rfl)
    | ((with_reducible refine WQ.blkY ?_ ?_); focus rfl)
    | refine WC.condT rfl ?_
    | refine WC.condF rfl ?_
    | refine WC.condTh rfl gdQ ?_
    | refine WC.condFh rfl gdQ ?_
    | (refine WC.cond rfl (fun hc => ?_) (fun hc => ?_) <;> (try first | (with_reducible replace hc := of_decide_eq_true hc) | (with_reducible replace hc := of_decide_eq_false hc) | (with_reducible replace hc := eqT hc) | (with_reducible replace hc := eqF hc) | (with_reducible replace hc := neT hc) | (with_reducible replace hc := neF hc) | (with_reducible replace hc := noT hc) | (with_reducible replace hc := noF hc)) <;> (try (exfalso; omega))))
  exact WQ.body (Reads.tmp rfl rfl) fun w' hw' => ⟨by simp [e1, e2], hw'.ext.below⟩
end Go.Proofs.Ytgamndfgcbapgaa
