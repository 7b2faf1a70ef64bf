/- How numbers that came in are read. -/
import Derived.Test.YtgamndfgcbapgaaOpn
import Derived.Test.YtgamndfgcbapgaaSerI
import Derived.Test.YtgamndfgcbapgaaSerD
namespace Go.Proofs.Ytgamndfgcbapgaa
open Go.ChangeShapes Go.WideShapes Go.ChangeAt Go.RowKit Go.Deep
open Go.Proofs.Ytgamndfgcbapgaa.Ser
set_option linter.unusedVariables false
set_option maxRecDepth 100000

section
variable {H : Type} {enc : TypeId × Value → H} {w : World} {base : Nat} {spare : Nat → Bool} {held : Bool}
theorem open_u32s {r : Reach} {b0 : Nat} {v : Value} {d : DataW H} {p : List MemPlace} (hv : Value.okWide Try.prog w r b0 22 v) (h : DataW.Trod enc Try.prog w base spare held 22 v d p) :
    ∃ A n c xs, v = .slice A n c ∧ Lst (ic .u32) 1 w w.heap.size A n xs ∧ okA A n ∧ n ≤ c ∧ (∀ a ∈ xs, RU a) := by
  obtain ⟨A0, n0, c0, rfl⟩ := okWide_slice Try.underlying22 hv
  obtain ⟨fuel, hf⟩ := h
  have hok : Cell.okWide Try.prog w r b0 22 (.slice A0 n0 c0) := by
    unfold Value.okWide at hv
    rw [Try.underlying22] at hv
    exact hv
  obtain ⟨A, n, c, xs, h1, h2, hw, h3, h4, _⟩ := open_list (enc := ic .u32) (k := 1) 0 RU Try.underlying22 (by kernel_rfl) (by omega) (ic_len .u32) (c1 := .slice A0 n0 c0) hf (fun n cs' z hl hz => by
    match cs', hl with
    | [c0], _ =>
      obtain ⟨a5, f5, _, w5⟩ := DataW.trod_int Try.underlying23 hz
      simp only [List.cons.injEq, and_true] at f5
      subst f5
      exact ⟨a5, bounds_u32 w5, rfl⟩) (spot_of_cell Try.underlying22 hok)
  exact ⟨A, n, c, xs, h1, h2, h3, h4, hw⟩
end

set_option maxHeartbeats 4000000 in
theorem serialRows_walk (x fr to : Int) (A : Option Addr) (n c : Nat) (xs : List Int) (w : World) (w0 : (Lit.int .u32 x).wf = true) (w1 : (Lit.int .u32 fr).wf = true) (w2 : (Lit.int .u32 to).wf = true) (hL : Lst (ic .u32) 1 w w.heap.size A n xs) (hA : okA A n) (hcap : n ≤ c) (hx : ∀ y ∈ xs, RU y) :
    Calls Try.prog 4 #[.int .u32 x, .int .u32 fr, .int .u32 to, .slice A n c] w fun e w' => e = .returned (.bool true) ∧ Below w.heap.size w w' := by
  have hxr := ru_wf w0
  have hfr := ru_wf w1
  have htr := ru_wf w2
  have hl := hL.len
  have hm := hL.most
  unfold maxLen at hm
  have q1 := fun w => within_q x fr to w
  have q2 := fun w => rwithin_q x fr to w hxr hfr htr
  generalize withinF x fr to = T at *
  have hxr' : 0 ≤ x ∧ x ≤ 4294967295 := hxr
  have hfr' : 0 ≤ fr ∧ fr ≤ 4294967295 := hfr
  have htr' : 0 ≤ to ∧ to ≤ 4294967295 := htr
  clear w0 w1 w2
  refine enterW (fun _ => False) _ Try.func4 rfl (by simp only [Try.ntmps4, List.length_cons, List.length_nil, Nat.reduceAdd, Nat.reduceSub]; rfl) ?_
  refine WC.addVw (ic_len .u32) hL ?_
  by_cases hbig : n ≤ 200
  case neg =>
    have hg : decide ((n : Int) > 200) = true := decide_eq_true (by omega)
    repeat' (first
    | with_reducible refine WL.nil ?_
    | with_reducible refine WQ.thenN ?_
    | with_reducible refine WQ.code ?_
    | with_reducible refine WC.seq ?_
    | with_reducible refine WC.region ?_
    | ((with_reducible refine WL.isN_move ?_); first | refine WL.yld rfl (Yld.pure rfl nrmQ) ?_)
    | ((with_reducible refine WL.isN_assign ?_); first | refine WL.yld rfl (Yld.pure rfl nrmQ) ?_)
    | ((with_reducible refine WL.isN_bin ?_); first | refine WL.yld rfl (Yld.pure rfl nrmQ) ?_ | refine WL.yld rfl (Yld.rem rfl rfl rfl rfl (by omega) (by omega)) ?_ | refine WL.yld rfl (Yld.quo rfl rfl rfl rfl (by omega) (by omega) nrmQ) ?_ | refine WL.yld rfl (Yld.eqlB rfl rfl rfl rfl) ?_ | refine WL.yld rfl (Yld.neqB rfl rfl rfl rfl) ?_ | refine WL.yld rfl (Yld.eqlA 4 rfl rfl rfl (by kernel_rfl) (by kernel_rfl) rfl rfl) ?_ | refine WL.yld rfl (Yld.neqA 4 rfl rfl rfl (by kernel_rfl) (by kernel_rfl) rfl rfl) ?_ | refine WL.yld rfl (Yld.quoT rfl rfl rfl rfl (by omega) nrmQ) ?_)
    | ((with_reducible refine WL.isN_un ?_); first | refine WL.yld rfl (Yld.pure rfl nrmQ) ?_)
    | ((with_reducible refine WL.isN_load ?_); first | refine WL.yld rfl (Yld.load rfl rfl rfl rfl cellQ) ?_ | refine WL.yld rfl (Yld.loadAgg rfl rfl rfl rfl rfl aggQ) ?_)
    | ((with_reducible refine WL.isN_iaddr ?_); first | refine WL.yld rfl (Yld.indexS 0 rfl rfl rfl rfl rfl rfl (by omega)) ?_ | refine WL.yld rfl (Yld.indexS 1 rfl rfl rfl rfl rfl rfl (by omega)) ?_ | refine WL.yld rfl (Yld.indexS 2 rfl rfl rfl rfl rfl rfl (by omega)) ?_ | refine WL.yld rfl (Yld.indexS _ rfl rfl rfl rfl rfl rfl (by omega)) ?_ | refine WL.yld rfl (Yld.indexA 0 rfl rfl rfl rfl rfl rfl (by omega)) ?_ | refine WL.yld rfl (Yld.indexA 1 rfl rfl rfl rfl rfl rfl (by omega)) ?_ | refine WL.yld rfl (Yld.indexA _ rfl rfl rfl rfl rfl rfl (by omega)) ?_)
    | ((with_reducible refine WL.isN_conv ?_); first | refine WL.yld rfl (Yld.convInt rfl rfl rfl rfl nrmQ) ?_)
    | ((with_reducible refine WL.isN_pick ?_); first | refine WL.yld rfl (Yld.pickT rfl rfl rfl) ?_ | refine WL.yld rfl (Yld.pickF rfl rfl rfl) ?_ | refine WL.yld rfl (Yld.pickTh rfl rfl gdQ rfl) ?_ | refine WL.yld rfl (Yld.pickFh rfl rfl gdQ rfl) ?_ | refine WL.yld rfl (Yld.pickB rfl rfl rfl rfl) ?_)
    | ((with_reducible refine WL.isN_call ?_); first | refine WL.step rfl (StepTo.callV (v := .bool true) (us := []) rfl rfl rfl rfl rfl (by kernel_rfl) (fun w hw => shown_q w) ?_) | refine WL.yld rfl (Yld.lenSlice rfl rfl rfl) ?_ | refine WL.yld rfl (Yld.lenStr rfl rfl rfl) ?_)
    | ((with_reducible refine WL.isT ?_); first | refine WL.skipT rfl rfl rfl rfl gdQ ?_ | refine WL.skipU rfl rfl rfl rfl ?_ | refine WL.runT rfl rfl rfl gdQ ?_)
    | ((with_reducible refine WL.isF ?_); first | refine WL.skipF rfl rfl rfl rfl gdQ ?_ | refine WL.skipU rfl rfl rfl rfl ?_ | refine WL.runF rfl rfl rfl gdQ ?_)
    | with_reducible refine WC.block ?_
    | with_reducible refine WC.scope ?_
    | with_reducible refine WC.label ?_
    | with_reducible refine WQ.ngN ?_
    | with_reducible refine WQ.ngR ?_
    | with_reducible refine WQ.ngX ?_
    | with_reducible refine WC.skip ?_
    | with_reducible refine WC.ret ?_
    | with_reducible refine WC.exit ?_
    | with_reducible refine WQ.thenR ?_
    | with_reducible refine WQ.thenX ?_
    | with_reducible refine WQ.blkN ?_
    | with_reducible refine WQ.blkR ?_
    | ((with_reducible refine WQ.blkX ?_ ?_); focus rfl)
    | ((with_reducible refine WQ.blkY ?_ ?_); focus rfl)
    | refine WC.condT rfl ?_
    | refine WC.condF rfl ?_
    | refine WC.condTh rfl gdQ ?_
    | refine WC.condFh rfl gdQ ?_
    | (refine WC.cond rfl (fun hc => ?_) (fun hc => ?_) <;> (try first | (with_reducible replace hc := of_decide_eq_true hc) | (with_reducible replace hc := of_decide_eq_false hc) | (with_reducible replace hc := eqT hc) | (with_reducible replace hc := eqF hc) | (with_reducible replace hc := neT hc) | (with_reducible replace hc := neF hc) | (with_reducible replace hc := noT hc) | (with_reducible replace hc := noF hc)) <;> (try (exfalso; omega))))
    exact WQ.body (Reads.tmp rfl rfl) fun w' hw' => ⟨by rfl, hw'.ext.below⟩
  repeat' (first
    | with_reducible refine WL.nil ?_
    | with_reducible refine WQ.thenN ?_
    | with_reducible refine WQ.code ?_
    | with_reducible refine WC.seq ?_
    | with_reducible refine WC.region ?_
    | ((with_reducible refine WL.isN_move ?_); first | refine WL.yld rfl (Yld.pure rfl nrmQ) ?_)
    | ((with_reducible refine WL.isN_assign ?_); first | refine WL.yld rfl (Yld.pure rfl nrmQ) ?_)
    | ((with_reducible refine WL.isN_bin ?_); first | refine WL.yld rfl (Yld.pure rfl nrmQ) ?_ | refine WL.yld rfl (Yld.rem rfl rfl rfl rfl (by omega) (by omega)) ?_ | refine WL.yld rfl (Yld.quo rfl rfl rfl rfl (by omega) (by omega) nrmQ) ?_ | refine WL.yld rfl (Yld.eqlB rfl rfl rfl rfl) ?_ | refine WL.yld rfl (Yld.neqB rfl rfl rfl rfl) ?_ | refine WL.yld rfl (Yld.eqlA 4 rfl rfl rfl (by kernel_rfl) (by kernel_rfl) rfl rfl) ?_ | refine WL.yld rfl (Yld.neqA 4 rfl rfl rfl (by kernel_rfl) (by kernel_rfl) rfl rfl) ?_ | refine WL.yld rfl (Yld.quoT rfl rfl rfl rfl (by omega) nrmQ) ?_)
    | ((with_reducible refine WL.isN_un ?_); first | refine WL.yld rfl (Yld.pure rfl nrmQ) ?_)
    | ((with_reducible refine WL.isN_load ?_); first | refine WL.yld rfl (Yld.load rfl rfl rfl rfl cellQ) ?_ | refine WL.yld rfl (Yld.loadAgg rfl rfl rfl rfl rfl aggQ) ?_)
    | ((with_reducible refine WL.isN_iaddr ?_); first | refine WL.yld rfl (Yld.indexS 0 rfl rfl rfl rfl rfl rfl (by omega)) ?_ | refine WL.yld rfl (Yld.indexS 1 rfl rfl rfl rfl rfl rfl (by omega)) ?_ | refine WL.yld rfl (Yld.indexS 2 rfl rfl rfl rfl rfl rfl (by omega)) ?_ | refine WL.yld rfl (Yld.indexS _ rfl rfl rfl rfl rfl rfl (by omega)) ?_ | refine WL.yld rfl (Yld.indexA 0 rfl rfl rfl rfl rfl rfl (by omega)) ?_ | refine WL.yld rfl (Yld.indexA 1 rfl rfl rfl rfl rfl rfl (by omega)) ?_ | refine WL.yld rfl (Yld.indexA _ rfl rfl rfl rfl rfl rfl (by omega)) ?_)
    | ((with_reducible refine WL.isN_conv ?_); first | refine WL.yld rfl (Yld.convInt rfl rfl rfl rfl nrmQ) ?_)
    | ((with_reducible refine WL.isN_pick ?_); first | refine WL.yld rfl (Yld.pickT rfl rfl rfl) ?_ | refine WL.yld rfl (Yld.pickF rfl rfl rfl) ?_ | refine WL.yld rfl (Yld.pickTh rfl rfl gdQ rfl) ?_ | refine WL.yld rfl (Yld.pickFh rfl rfl gdQ rfl) ?_ | refine WL.yld rfl (Yld.pickB rfl rfl rfl rfl) ?_)
    | ((with_reducible refine WL.isN_call ?_); first | refine WL.step rfl (StepTo.callV (v := .bool true) (us := []) rfl rfl rfl rfl rfl (by kernel_rfl) (fun w hw => shown_q w) ?_) | refine WL.step rfl (StepTo.callN [] (us := [.slice A n c, .int .u32 fr]) rfl rfl rfl rfl rfl (by kernel_rfl) (fun w hw => runs_w A n c fr xs w (hw.lst 0 (ic_len .u32) (by omega) rfl) (by omega) hA hx) ?_) | refine WL.yld rfl (Yld.lenSlice rfl rfl rfl) ?_ | refine WL.yld rfl (Yld.lenStr rfl rfl rfl) ?_)
    | ((with_reducible refine WL.isT ?_); first | refine WL.skipT rfl rfl rfl rfl gdQ ?_ | refine WL.skipU rfl rfl rfl rfl ?_ | refine WL.runT rfl rfl rfl gdQ ?_)
    | ((with_reducible refine WL.isF ?_); first | refine WL.skipF rfl rfl rfl rfl gdQ ?_ | refine WL.skipU rfl rfl rfl rfl ?_ | refine WL.runF rfl rfl rfl gdQ ?_)
    | with_reducible refine WC.block ?_
    | with_reducible refine WC.scope ?_
    | with_reducible refine WC.label ?_
    | with_reducible refine WQ.ngN ?_
    | with_reducible refine WQ.ngR ?_
    | with_reducible refine WQ.ngX ?_
    | with_reducible refine WC.skip ?_
    | with_reducible refine WC.ret ?_
    | with_reducible refine WC.exit ?_
    | with_reducible refine WQ.thenR ?_
    | with_reducible refine WQ.thenX ?_
    | with_reducible refine WQ.blkN ?_
    | with_reducible refine WQ.blkR ?_
    | ((with_reducible refine WQ.blkX ?_ ?_); focus rfl)
    | ((with_reducible refine WQ.blkY ?_ ?_); focus rfl)
    | refine WC.condT rfl ?_
    | refine WC.condF rfl ?_
    | refine WC.condTh rfl gdQ ?_
    | refine WC.condFh rfl gdQ ?_
    | (refine WC.cond rfl (fun hc => ?_) (fun hc => ?_) <;> (try first | (with_reducible replace hc := of_decide_eq_true hc) | (with_reducible replace hc := of_decide_eq_false hc) | (with_reducible replace hc := eqT hc) | (with_reducible replace hc := eqF hc) | (with_reducible replace hc := neT hc) | (with_reducible replace hc := neF hc) | (with_reducible replace hc := noT hc) | (with_reducible replace hc := noF hc)) <;> (try (exfalso; omega))))
  rintro v N ⟨A1, m1, c1, hm1, rfl, rfl⟩
  repeat' (first
    | with_reducible refine WL.nil ?_
    | with_reducible refine WQ.thenN ?_
    | with_reducible refine WQ.code ?_
    | with_reducible refine WC.seq ?_
    | with_reducible refine WC.region ?_
    | ((with_reducible refine WL.isN_move ?_); first | refine WL.yld rfl (Yld.pure rfl nrmQ) ?_)
    | ((with_reducible refine WL.isN_assign ?_); first | refine WL.yld rfl (Yld.pure rfl nrmQ) ?_)
    | ((with_reducible refine WL.isN_bin ?_); first | refine WL.yld rfl (Yld.pure rfl nrmQ) ?_ | refine WL.yld rfl (Yld.rem rfl rfl rfl rfl (by omega) (by omega)) ?_ | refine WL.yld rfl (Yld.quo rfl rfl rfl rfl (by omega) (by omega) nrmQ) ?_ | refine WL.yld rfl (Yld.eqlB rfl rfl rfl rfl) ?_ | refine WL.yld rfl (Yld.neqB rfl rfl rfl rfl) ?_ | refine WL.yld rfl (Yld.eqlA 4 rfl rfl rfl (by kernel_rfl) (by kernel_rfl) rfl rfl) ?_ | refine WL.yld rfl (Yld.neqA 4 rfl rfl rfl (by kernel_rfl) (by kernel_rfl) rfl rfl) ?_ | refine WL.yld rfl (Yld.quoT rfl rfl rfl rfl (by omega) nrmQ) ?_)
    | ((with_reducible refine WL.isN_un ?_); first | refine WL.yld rfl (Yld.pure rfl nrmQ) ?_)
    | ((with_reducible refine WL.isN_load ?_); first | refine WL.yld rfl (Yld.load rfl rfl rfl rfl cellQ) ?_ | refine WL.yld rfl (Yld.loadAgg rfl rfl rfl rfl rfl aggQ) ?_)
    | ((with_reducible refine WL.isN_iaddr ?_); first | refine WL.yld rfl (Yld.indexS 0 rfl rfl rfl rfl rfl rfl (by omega)) ?_ | refine WL.yld rfl (Yld.indexS 1 rfl rfl rfl rfl rfl rfl (by omega)) ?_ | refine WL.yld rfl (Yld.indexS 2 rfl rfl rfl rfl rfl rfl (by omega)) ?_ | refine WL.yld rfl (Yld.indexS _ rfl rfl rfl rfl rfl rfl (by omega)) ?_ | refine WL.yld rfl (Yld.indexA 0 rfl rfl rfl rfl rfl rfl (by omega)) ?_ | refine WL.yld rfl (Yld.indexA 1 rfl rfl rfl rfl rfl rfl (by omega)) ?_ | refine WL.yld rfl (Yld.indexA _ rfl rfl rfl rfl rfl rfl (by omega)) ?_)
    | ((with_reducible refine WL.isN_conv ?_); first | refine WL.yld rfl (Yld.convInt rfl rfl rfl rfl nrmQ) ?_)
    | ((with_reducible refine WL.isN_pick ?_); first | refine WL.yld rfl (Yld.pickT rfl rfl rfl) ?_ | refine WL.yld rfl (Yld.pickF rfl rfl rfl) ?_ | refine WL.yld rfl (Yld.pickTh rfl rfl gdQ rfl) ?_ | refine WL.yld rfl (Yld.pickFh rfl rfl gdQ rfl) ?_ | refine WL.yld rfl (Yld.pickB rfl rfl rfl rfl) ?_)
    | ((with_reducible refine WL.isN_call ?_); first | refine WL.step rfl (StepTo.callN [] (us := [.slice A n c]) rfl rfl rfl rfl rfl (by kernel_rfl) (fun w hw => ints_w A n c xs w (hw.lst 1 (ic_len .u32) (by omega) rfl) (by omega) hx) ?_) | refine WL.yld rfl (Yld.lenSlice rfl rfl rfl) ?_ | refine WL.yld rfl (Yld.lenStr rfl rfl rfl) ?_)
    | ((with_reducible refine WL.isT ?_); first | refine WL.skipT rfl rfl rfl rfl gdQ ?_ | refine WL.skipU rfl rfl rfl rfl ?_ | refine WL.runT rfl rfl rfl gdQ ?_)
    | ((with_reducible refine WL.isF ?_); first | refine WL.skipF rfl rfl rfl rfl gdQ ?_ | refine WL.skipU rfl rfl rfl rfl ?_ | refine WL.runF rfl rfl rfl gdQ ?_)
    | with_reducible refine WC.block ?_
    | with_reducible refine WC.scope ?_
    | with_reducible refine WC.label ?_
    | with_reducible refine WQ.ngN ?_
    | with_reducible refine WQ.ngR ?_
    | with_reducible refine WQ.ngX ?_
    | with_reducible refine WC.skip ?_
    | with_reducible refine WC.ret ?_
    | with_reducible refine WC.exit ?_
    | with_reducible refine WQ.thenR ?_
    | with_reducible refine WQ.thenX ?_
    | with_reducible refine WQ.blkN ?_
    | with_reducible refine WQ.blkR ?_
    | ((with_reducible refine WQ.blkX ?_ ?_); focus rfl)
    | ((with_reducible refine WQ.blkY ?_ ?_); focus rfl)
    | refine WC.condT rfl ?_
    | refine WC.condF rfl ?_
    | refine WC.condTh rfl gdQ ?_
    | refine WC.condFh rfl gdQ ?_
    | (refine WC.cond rfl (fun hc => ?_) (fun hc => ?_) <;> (try first | (with_reducible replace hc := of_decide_eq_true hc) | (with_reducible replace hc := of_decide_eq_false hc) | (with_reducible replace hc := eqT hc) | (with_reducible replace hc := eqF hc) | (with_reducible replace hc := neT hc) | (with_reducible replace hc := neF hc) | (with_reducible replace hc := noT hc) | (with_reducible replace hc := noF hc)) <;> (try (exfalso; omega))))
  rintro v N ⟨A2, c2, rfl, rfl⟩
  repeat' (first
    | with_reducible refine WL.nil ?_
    | with_reducible refine WQ.thenN ?_
    | with_reducible refine WQ.code ?_
    | with_reducible refine WC.seq ?_
    | with_reducible refine WC.region ?_
    | ((with_reducible refine WL.isN_move ?_); first | refine WL.yld rfl (Yld.pure rfl nrmQ) ?_)
    | ((with_reducible refine WL.isN_assign ?_); first | refine WL.yld rfl (Yld.pure rfl nrmQ) ?_)
    | ((with_reducible refine WL.isN_bin ?_); first | refine WL.yld rfl (Yld.pure rfl nrmQ) ?_ | refine WL.yld rfl (Yld.rem rfl rfl rfl rfl (by omega) (by omega)) ?_ | refine WL.yld rfl (Yld.quo rfl rfl rfl rfl (by omega) (by omega) nrmQ) ?_ | refine WL.yld rfl (Yld.eqlB rfl rfl rfl rfl) ?_ | refine WL.yld rfl (Yld.neqB rfl rfl rfl rfl) ?_ | refine WL.yld rfl (Yld.eqlA 4 rfl rfl rfl (by kernel_rfl) (by kernel_rfl) rfl rfl) ?_ | refine WL.yld rfl (Yld.neqA 4 rfl rfl rfl (by kernel_rfl) (by kernel_rfl) rfl rfl) ?_ | refine WL.yld rfl (Yld.quoT rfl rfl rfl rfl (by omega) nrmQ) ?_)
    | ((with_reducible refine WL.isN_un ?_); first | refine WL.yld rfl (Yld.pure rfl nrmQ) ?_)
    | ((with_reducible refine WL.isN_load ?_); first | refine WL.yld rfl (Yld.load rfl rfl rfl rfl cellQ) ?_ | refine WL.yld rfl (Yld.loadAgg rfl rfl rfl rfl rfl aggQ) ?_)
    | ((with_reducible refine WL.isN_iaddr ?_); first | refine WL.yld rfl (Yld.indexS 0 rfl rfl rfl rfl rfl rfl (by omega)) ?_ | refine WL.yld rfl (Yld.indexS 1 rfl rfl rfl rfl rfl rfl (by omega)) ?_ | refine WL.yld rfl (Yld.indexS 2 rfl rfl rfl rfl rfl rfl (by omega)) ?_ | refine WL.yld rfl (Yld.indexS _ rfl rfl rfl rfl rfl rfl (by omega)) ?_ | refine WL.yld rfl (Yld.indexA 0 rfl rfl rfl rfl rfl rfl (by omega)) ?_ | refine WL.yld rfl (Yld.indexA 1 rfl rfl rfl rfl rfl rfl (by omega)) ?_ | refine WL.yld rfl (Yld.indexA _ rfl rfl rfl rfl rfl rfl (by omega)) ?_)
    | ((with_reducible refine WL.isN_conv ?_); first | refine WL.yld rfl (Yld.convInt rfl rfl rfl rfl nrmQ) ?_)
    | ((with_reducible refine WL.isN_pick ?_); first | refine WL.yld rfl (Yld.pickT rfl rfl rfl) ?_ | refine WL.yld rfl (Yld.pickF rfl rfl rfl) ?_ | refine WL.yld rfl (Yld.pickTh rfl rfl gdQ rfl) ?_ | refine WL.yld rfl (Yld.pickFh rfl rfl gdQ rfl) ?_ | refine WL.yld rfl (Yld.pickB rfl rfl rfl rfl) ?_)
    | ((with_reducible refine WL.isN_call ?_); first | refine WL.step rfl (StepTo.callN [] (us := [.slice A2 n c2, .int .i64 fr]) rfl rfl rfl rfl rfl (by kernel_rfl) (fun w hw => rruns_w A2 n c2 fr xs w (hw.lstRow 0 (ic_len .i64) (by omega) rfl (by unfold maxLen; omega)) (by omega) hx hfr) ?_) | refine WL.yld rfl (Yld.lenSlice rfl rfl rfl) ?_ | refine WL.yld rfl (Yld.lenStr rfl rfl rfl) ?_)
    | ((with_reducible refine WL.isT ?_); first | refine WL.skipT rfl rfl rfl rfl gdQ ?_ | refine WL.skipU rfl rfl rfl rfl ?_ | refine WL.runT rfl rfl rfl gdQ ?_)
    | ((with_reducible refine WL.isF ?_); first | refine WL.skipF rfl rfl rfl rfl gdQ ?_ | refine WL.skipU rfl rfl rfl rfl ?_ | refine WL.runF rfl rfl rfl gdQ ?_)
    | with_reducible refine WC.block ?_
    | with_reducible refine WC.scope ?_
    | with_reducible refine WC.label ?_
    | with_reducible refine WQ.ngN ?_
    | with_reducible refine WQ.ngR ?_
    | with_reducible refine WQ.ngX ?_
    | with_reducible refine WC.skip ?_
    | with_reducible refine WC.ret ?_
    | with_reducible refine WC.exit ?_
    | with_reducible refine WQ.thenR ?_
    | with_reducible refine WQ.thenX ?_
    | with_reducible refine WQ.blkN ?_
    | with_reducible refine WQ.blkR ?_
    | ((with_reducible refine WQ.blkX ?_ ?_); focus rfl)
    | ((with_reducible refine WQ.blkY ?_ ?_); focus rfl)
    | refine WC.condT rfl ?_
    | refine WC.condF rfl ?_
    | refine WC.condTh rfl gdQ ?_
    | refine WC.condFh rfl gdQ ?_
    | (refine WC.cond rfl (fun hc => ?_) (fun hc => ?_) <;> (try first | (with_reducible replace hc := of_decide_eq_true hc) | (with_reducible replace hc := of_decide_eq_false hc) | (with_reducible replace hc := eqT hc) | (with_reducible replace hc := eqF hc) | (with_reducible replace hc := neT hc) | (with_reducible replace hc := neF hc) | (with_reducible replace hc := noT hc) | (with_reducible replace hc := noF hc)) <;> (try (exfalso; omega))))
  rintro v N ⟨A3, m3, c3, hm3, rfl, rfl⟩
  have hrl := runs_len (srt fr xs)
  have hsl := srt_len fr xs
  obtain rfl : m3 = m1 := by omega
  have hpr : ∀ p ∈ runs (srt fr xs), RU p.1 ∧ RU p.2 := fun p hp => ⟨((cov (fun y hy => hx y ((mem_srt hx).1 hy)) (up_srt hx)).each p hp).1, ((cov (fun y hy => hx y ((mem_srt hx).1 hy)) (up_srt hx)).each p hp).2.1⟩
  generalize hrs : runs (srt fr xs) = rs at *
  have hne : ((m3 : Int) != (m3 : Int)) = false := bneF rfl
  repeat' (first
    | with_reducible refine WL.nil ?_
    | with_reducible refine WQ.thenN ?_
    | with_reducible refine WQ.code ?_
    | with_reducible refine WC.seq ?_
    | with_reducible refine WC.region ?_
    | ((with_reducible refine WL.isN_move ?_); first | refine WL.yld rfl (Yld.pure rfl nrmQ) ?_)
    | ((with_reducible refine WL.isN_assign ?_); first | refine WL.yld rfl (Yld.pure rfl nrmQ) ?_)
    | ((with_reducible refine WL.isN_bin ?_); first | refine WL.yld rfl (Yld.pure rfl nrmQ) ?_ | refine WL.yld rfl (Yld.rem rfl rfl rfl rfl (by omega) (by omega)) ?_ | refine WL.yld rfl (Yld.quo rfl rfl rfl rfl (by omega) (by omega) nrmQ) ?_ | refine WL.yld rfl (Yld.eqlB rfl rfl rfl rfl) ?_ | refine WL.yld rfl (Yld.neqB rfl rfl rfl rfl) ?_ | refine WL.yld rfl (Yld.eqlA 4 rfl rfl rfl (by kernel_rfl) (by kernel_rfl) rfl rfl) ?_ | refine WL.yld rfl (Yld.neqA 4 rfl rfl rfl (by kernel_rfl) (by kernel_rfl) rfl rfl) ?_ | refine WL.yld rfl (Yld.quoT rfl rfl rfl rfl (by omega) nrmQ) ?_)
    | ((with_reducible refine WL.isN_un ?_); first | refine WL.yld rfl (Yld.pure rfl nrmQ) ?_)
    | ((with_reducible refine WL.isN_load ?_); first | refine WL.yld rfl (Yld.load rfl rfl rfl rfl cellQ) ?_ | refine WL.yld rfl (Yld.loadAgg rfl rfl rfl rfl rfl aggQ) ?_)
    | ((with_reducible refine WL.isN_iaddr ?_); first | refine WL.yld rfl (Yld.indexS 0 rfl rfl rfl rfl rfl rfl (by omega)) ?_ | refine WL.yld rfl (Yld.indexS 1 rfl rfl rfl rfl rfl rfl (by omega)) ?_ | refine WL.yld rfl (Yld.indexS 2 rfl rfl rfl rfl rfl rfl (by omega)) ?_ | refine WL.yld rfl (Yld.indexS _ rfl rfl rfl rfl rfl rfl (by omega)) ?_ | refine WL.yld rfl (Yld.indexA 0 rfl rfl rfl rfl rfl rfl (by omega)) ?_ | refine WL.yld rfl (Yld.indexA 1 rfl rfl rfl rfl rfl rfl (by omega)) ?_ | refine WL.yld rfl (Yld.indexA _ rfl rfl rfl rfl rfl rfl (by omega)) ?_)
    | ((with_reducible refine WL.isN_conv ?_); first | refine WL.yld rfl (Yld.convInt rfl rfl rfl rfl nrmQ) ?_)
    | ((with_reducible refine WL.isN_pick ?_); first | refine WL.yld rfl (Yld.pickT rfl rfl rfl) ?_ | refine WL.yld rfl (Yld.pickF rfl rfl rfl) ?_ | refine WL.yld rfl (Yld.pickTh rfl rfl gdQ rfl) ?_ | refine WL.yld rfl (Yld.pickFh rfl rfl gdQ rfl) ?_ | refine WL.yld rfl (Yld.pickB rfl rfl rfl rfl) ?_)
    | ((with_reducible refine WL.isN_call ?_); first | refine WL.yld rfl (Yld.lenSlice rfl rfl rfl) ?_ | refine WL.yld rfl (Yld.lenStr rfl rfl rfl) ?_)
    | ((with_reducible refine WL.isT ?_); first | refine WL.skipT rfl rfl rfl rfl gdQ ?_ | refine WL.skipU rfl rfl rfl rfl ?_ | refine WL.runT rfl rfl rfl gdQ ?_)
    | ((with_reducible refine WL.isF ?_); first | refine WL.skipF rfl rfl rfl rfl gdQ ?_ | refine WL.skipU rfl rfl rfl rfl ?_ | refine WL.runF rfl rfl rfl gdQ ?_)
    | with_reducible refine WC.block ?_
    | with_reducible refine WC.scope ?_
    | with_reducible refine WC.label ?_
    | with_reducible refine WQ.ngN ?_
    | with_reducible refine WQ.ngR ?_
    | with_reducible refine WQ.ngX ?_
    | with_reducible refine WC.skip ?_
    | with_reducible refine WC.ret ?_
    | with_reducible refine WC.exit ?_
    | with_reducible refine WQ.thenR ?_
    | with_reducible refine WQ.thenX ?_
    | with_reducible refine WQ.blkN ?_
    | with_reducible refine WQ.blkR ?_
    | ((with_reducible refine WQ.blkX ?_ ?_); focus rfl)
    | ((with_reducible refine WQ.blkY ?_ ?_); focus rfl)
    | refine WC.condT rfl ?_
    | refine WC.condF rfl ?_
    | refine WC.condTh rfl gdQ ?_
    | refine WC.condFh rfl gdQ ?_
    | (refine WC.cond rfl (fun hc => ?_) (fun hc => ?_) <;> (try first | (with_reducible replace hc := of_decide_eq_true hc) | (with_reducible replace hc := of_decide_eq_false hc) | (with_reducible replace hc := eqT hc) | (with_reducible replace hc := eqF hc) | (with_reducible replace hc := neT hc) | (with_reducible replace hc := neF hc) | (with_reducible replace hc := noT hc) | (with_reducible replace hc := noF hc)) <;> (try (exfalso; omega))))
  refine WC.loop (fun mm τ H => ∃ (i : Nat), i ≤ m3 ∧ mm = m3 - i ∧
      τ = [(0, .int .u32 x), (1, .int .u32 fr), (2, .int .u32 to), (3, .slice A n c), (9, .bool true), (10, .slice A1 m3 c1), (11, .slice A3 m3 c3), (12, .int .i64 i)] ∧
      H = [.row A3 m3 c3 34 2 (flat (pc .i64) rs), .row A1 m3 c1 33 2 (flat (pc .u32) rs), .vw A n 1 (flat (ic .u32) xs)])
    m3 _ _ [0, 2, 3] ?_ ?_ ⟨0, by omega, rfl, rfl, rfl⟩ ?_
  · exact (by repeat (first | exact Sub.nil | refine Sub.cons rfl ?_ | refine Sub.consE rfl (int_eq (by omega)) ?_))
  · exact ⟨by decide, rfl⟩
  rintro mm τ H ⟨i, hi, rfl, rfl, rfl⟩
  by_cases hlt : i < m3
  · obtain ⟨p, hp⟩ : ∃ p, rs[i]? = some p := ⟨_, List.getElem?_eq_getElem (by omega)⟩
    obtain ⟨⟨p1, p2⟩, p3, p4⟩ := hpr p (List.mem_of_getElem? hp)
    refine WC.rowAt 0 rfl (by omega) fun g3 h3 => ?_
    subst h3
    refine WC.rowAt 1 rfl (by omega) fun g1 h1 => ?_
    subst h1
    have hn1 : (p.1 != p.1) = false := bneF rfl
    have hn2 : (p.2 != p.2) = false := bneF rfl
    repeat' (first
    | with_reducible refine WL.nil ?_
    | with_reducible refine WQ.thenN ?_
    | with_reducible refine WQ.code ?_
    | with_reducible refine WC.seq ?_
    | with_reducible refine WC.region ?_
    | ((with_reducible refine WL.isN_move ?_); first | refine WL.yld rfl (Yld.pure rfl nrmQ) ?_)
    | ((with_reducible refine WK.isN_move ?_); first | refine WK.yld rfl (Yld.pure rfl nrmQ) ?_)
    | ((with_reducible refine WL.isN_assign ?_); first | refine WL.yld rfl (Yld.pure rfl nrmQ) ?_)
    | ((with_reducible refine WK.isN_assign ?_); first | refine WK.yld rfl (Yld.pure rfl nrmQ) ?_)
    | ((with_reducible refine WL.isN_bin ?_); first | refine WL.yld rfl (Yld.pure rfl nrmQ) ?_ | refine WL.yld rfl (Yld.rem rfl rfl rfl rfl (by omega) (by omega)) ?_ | refine WL.yld rfl (Yld.quo rfl rfl rfl rfl (by omega) (by omega) nrmQ) ?_ | refine WL.yld rfl (Yld.eqlB rfl rfl rfl rfl) ?_ | refine WL.yld rfl (Yld.neqB rfl rfl rfl rfl) ?_ | refine WL.yld rfl (Yld.eqlA 4 rfl rfl rfl (by kernel_rfl) (by kernel_rfl) rfl rfl) ?_ | refine WL.yld rfl (Yld.neqA 4 rfl rfl rfl (by kernel_rfl) (by kernel_rfl) rfl rfl) ?_ | refine WL.yld rfl (Yld.quoT rfl rfl rfl rfl (by omega) nrmQ) ?_)
    | ((with_reducible refine WK.isN_bin ?_); first | refine WK.yld rfl (Yld.pure rfl nrmQ) ?_ | refine WK.yld rfl (Yld.rem rfl rfl rfl rfl (by omega) (by omega)) ?_ | refine WK.yld rfl (Yld.quo rfl rfl rfl rfl (by omega) (by omega) nrmQ) ?_ | refine WK.yld rfl (Yld.eqlB rfl rfl rfl rfl) ?_ | refine WK.yld rfl (Yld.neqB rfl rfl rfl rfl) ?_ | refine WK.yld rfl (Yld.eqlA 4 rfl rfl rfl (by kernel_rfl) (by kernel_rfl) rfl rfl) ?_ | refine WK.yld rfl (Yld.neqA 4 rfl rfl rfl (by kernel_rfl) (by kernel_rfl) rfl rfl) ?_ | refine WK.yld rfl (Yld.quoT rfl rfl rfl rfl (by omega) nrmQ) ?_)
    | ((with_reducible refine WL.isN_un ?_); first | refine WL.yld rfl (Yld.pure rfl nrmQ) ?_)
    | ((with_reducible refine WK.isN_un ?_); first | refine WK.yld rfl (Yld.pure rfl nrmQ) ?_)
    | ((with_reducible refine WL.isN_load ?_); first | refine WL.yld rfl (Yld.load rfl rfl rfl rfl (CellAt.rowE 1 rfl (pc_get0 hp) (by omega))) ?_ | refine WL.yld rfl (Yld.load rfl rfl rfl rfl (CellAt.rowE 1 rfl (pc_get1 hp) (by omega))) ?_ | refine WL.yld rfl (Yld.load rfl rfl rfl rfl (CellAt.rowE 0 rfl (pc_get0 hp) (by omega))) ?_ | refine WL.yld rfl (Yld.load rfl rfl rfl rfl (CellAt.rowE 0 rfl (pc_get1 hp) (by omega))) ?_ | refine WL.yld rfl (Yld.load rfl rfl rfl rfl cellQ) ?_ | refine WL.yld rfl (Yld.loadAgg rfl rfl rfl rfl rfl aggQ) ?_)
    | ((with_reducible refine WK.isN_load ?_); first | refine WK.yld rfl (Yld.load rfl rfl rfl rfl (CellAt.rowE 1 rfl (pc_get0 hp) (by omega))) ?_ | refine WK.yld rfl (Yld.load rfl rfl rfl rfl (CellAt.rowE 1 rfl (pc_get1 hp) (by omega))) ?_ | refine WK.yld rfl (Yld.load rfl rfl rfl rfl (CellAt.rowE 0 rfl (pc_get0 hp) (by omega))) ?_ | refine WK.yld rfl (Yld.load rfl rfl rfl rfl (CellAt.rowE 0 rfl (pc_get1 hp) (by omega))) ?_ | refine WK.yld rfl (Yld.load rfl rfl rfl rfl cellQ) ?_ | refine WK.yld rfl (Yld.loadAgg rfl rfl rfl rfl rfl aggQ) ?_)
    | ((with_reducible refine WL.isN_iaddr ?_); first | refine WL.yld rfl (Yld.indexS i rfl rfl rfl rfl rfl rfl (by omega)) ?_ | refine WL.yld rfl (Yld.indexS 0 rfl rfl rfl rfl rfl rfl (by omega)) ?_ | refine WL.yld rfl (Yld.indexS 1 rfl rfl rfl rfl rfl rfl (by omega)) ?_ | refine WL.yld rfl (Yld.indexS 2 rfl rfl rfl rfl rfl rfl (by omega)) ?_ | refine WL.yld rfl (Yld.indexS _ rfl rfl rfl rfl rfl rfl (by omega)) ?_ | refine WL.yld rfl (Yld.indexA 0 rfl rfl rfl rfl rfl rfl (by omega)) ?_ | refine WL.yld rfl (Yld.indexA 1 rfl rfl rfl rfl rfl rfl (by omega)) ?_ | refine WL.yld rfl (Yld.indexA _ rfl rfl rfl rfl rfl rfl (by omega)) ?_)
    | ((with_reducible refine WK.isN_iaddr ?_); first | refine WK.yld rfl (Yld.indexS i rfl rfl rfl rfl rfl rfl (by omega)) ?_ | refine WK.yld rfl (Yld.indexS 0 rfl rfl rfl rfl rfl rfl (by omega)) ?_ | refine WK.yld rfl (Yld.indexS 1 rfl rfl rfl rfl rfl rfl (by omega)) ?_ | refine WK.yld rfl (Yld.indexS 2 rfl rfl rfl rfl rfl rfl (by omega)) ?_ | refine WK.yld rfl (Yld.indexS _ rfl rfl rfl rfl rfl rfl (by omega)) ?_ | refine WK.yld rfl (Yld.indexA 0 rfl rfl rfl rfl rfl rfl (by omega)) ?_ | refine WK.yld rfl (Yld.indexA 1 rfl rfl rfl rfl rfl rfl (by omega)) ?_ | refine WK.yld rfl (Yld.indexA _ rfl rfl rfl rfl rfl rfl (by omega)) ?_)
    | ((with_reducible refine WL.isN_conv ?_); first | refine WL.yld rfl (Yld.convInt rfl rfl rfl rfl nrmQ) ?_)
    | ((with_reducible refine WK.isN_conv ?_); first | refine WK.yld rfl (Yld.convInt rfl rfl rfl rfl nrmQ) ?_)
    | ((with_reducible refine WL.isN_pick ?_); first | refine WL.yld rfl (Yld.pickT rfl rfl rfl) ?_ | refine WL.yld rfl (Yld.pickF rfl rfl rfl) ?_ | refine WL.yld rfl (Yld.pickTh rfl rfl gdQ rfl) ?_ | refine WL.yld rfl (Yld.pickFh rfl rfl gdQ rfl) ?_ | refine WL.yld rfl (Yld.pickB rfl rfl rfl rfl) ?_)
    | ((with_reducible refine WK.isN_pick ?_); first | refine WK.yld rfl (Yld.pickT rfl rfl rfl) ?_ | refine WK.yld rfl (Yld.pickF rfl rfl rfl) ?_ | refine WK.yld rfl (Yld.pickTh rfl rfl gdQ rfl) ?_ | refine WK.yld rfl (Yld.pickFh rfl rfl gdQ rfl) ?_ | refine WK.yld rfl (Yld.pickB rfl rfl rfl rfl) ?_)
    | ((with_reducible refine WL.isN_call ?_); first | refine WL.yld rfl (Yld.lenSlice rfl rfl rfl) ?_ | refine WL.yld rfl (Yld.lenStr rfl rfl rfl) ?_)
    | ((with_reducible refine WK.isN_call ?_); first | refine WK.yld rfl (Yld.lenSlice rfl rfl rfl) ?_ | refine WK.yld rfl (Yld.lenStr rfl rfl rfl) ?_)
    | ((with_reducible refine WL.isT ?_); first | refine WL.skipT rfl rfl rfl rfl gdQ ?_ | refine WL.skipU rfl rfl rfl rfl ?_ | refine WL.runT rfl rfl rfl gdQ ?_)
    | ((with_reducible refine WK.isT ?_); first | refine WK.skipT rfl rfl rfl rfl gdQ ?_ | refine WK.skipU rfl rfl rfl rfl ?_ | refine WK.runT rfl rfl rfl gdQ ?_)
    | ((with_reducible refine WL.isF ?_); first | refine WL.skipF rfl rfl rfl rfl gdQ ?_ | refine WL.skipU rfl rfl rfl rfl ?_ | refine WL.runF rfl rfl rfl gdQ ?_)
    | ((with_reducible refine WK.isF ?_); first | refine WK.skipF rfl rfl rfl rfl gdQ ?_ | refine WK.skipU rfl rfl rfl rfl ?_ | refine WK.runF rfl rfl rfl gdQ ?_)
    | with_reducible refine WC.block ?_
    | with_reducible refine WC.scope ?_
    | with_reducible refine WC.label ?_
    | with_reducible refine WQ.ngN ?_
    | with_reducible refine WQ.ngR ?_
    | with_reducible refine WQ.ngX ?_
    | with_reducible refine WC.skip ?_
    | with_reducible refine WC.ret ?_
    | with_reducible refine WC.exit ?_
    | with_reducible refine WQ.thenR ?_
    | with_reducible refine WQ.thenX ?_
    | with_reducible refine WQ.blkN ?_
    | with_reducible refine WQ.blkR ?_
    | ((with_reducible refine WQ.blkX ?_ ?_); focus rfl)
    | ((with_reducible refine WQ.blkY ?_ ?_); focus rfl)
    | (refine WC.quiet (i := 11) (by kernel_rfl) (by kernel_rfl) ?_)
    | with_reducible refine WK.nil ?_
    | refine WC.condT rfl ?_
    | refine WC.condF rfl ?_
    | refine WC.condTh rfl gdQ ?_
    | refine WC.condFh rfl gdQ ?_
    | (refine WC.cond rfl (fun hc => ?_) (fun hc => ?_) <;> (try first | (with_reducible replace hc := of_decide_eq_true hc) | (with_reducible replace hc := of_decide_eq_false hc) | (with_reducible replace hc := eqT hc) | (with_reducible replace hc := eqF hc) | (with_reducible replace hc := neT hc) | (with_reducible replace hc := neF hc) | (with_reducible replace hc := noT hc) | (with_reducible replace hc := noF hc)) <;> (try (exfalso; omega))))
    exact WQ.rnd (m3 - (i + 1)) _ _ [0, 1, 2] (by repeat (first | exact Sub.nil | refine Sub.cons rfl ?_ | refine Sub.consE rfl (int_eq (by omega)) ?_)) ⟨by decide, rfl⟩ (by omega) ⟨i + 1, by omega, rfl, rfl, rfl⟩
  repeat' (first
    | with_reducible refine WL.nil ?_
    | with_reducible refine WQ.thenN ?_
    | with_reducible refine WQ.code ?_
    | with_reducible refine WC.seq ?_
    | with_reducible refine WC.region ?_
    | ((with_reducible refine WL.isN_move ?_); first | refine WL.yld rfl (Yld.pure rfl nrmQ) ?_)
    | ((with_reducible refine WL.isN_assign ?_); first | refine WL.yld rfl (Yld.pure rfl nrmQ) ?_)
    | ((with_reducible refine WL.isN_bin ?_); first | refine WL.yld rfl ((Yld.eqlB rfl rfl rfl rfl).to eqB_self) ?_ | refine WL.yld rfl (Yld.pure rfl nrmQ) ?_ | refine WL.yld rfl (Yld.rem rfl rfl rfl rfl (by omega) (by omega)) ?_ | refine WL.yld rfl (Yld.quo rfl rfl rfl rfl (by omega) (by omega) nrmQ) ?_ | refine WL.yld rfl (Yld.eqlB rfl rfl rfl rfl) ?_ | refine WL.yld rfl (Yld.neqB rfl rfl rfl rfl) ?_ | refine WL.yld rfl (Yld.eqlA 4 rfl rfl rfl (by kernel_rfl) (by kernel_rfl) rfl rfl) ?_ | refine WL.yld rfl (Yld.neqA 4 rfl rfl rfl (by kernel_rfl) (by kernel_rfl) rfl rfl) ?_ | refine WL.yld rfl (Yld.quoT rfl rfl rfl rfl (by omega) nrmQ) ?_)
    | ((with_reducible refine WL.isN_un ?_); first | refine WL.yld rfl (Yld.pure rfl nrmQ) ?_)
    | ((with_reducible refine WL.isN_load ?_); first | refine WL.yld rfl (Yld.load rfl rfl rfl rfl cellQ) ?_ | refine WL.yld rfl (Yld.loadAgg rfl rfl rfl rfl rfl aggQ) ?_)
    | ((with_reducible refine WL.isN_iaddr ?_); first | refine WL.yld rfl (Yld.indexS 0 rfl rfl rfl rfl rfl rfl (by omega)) ?_ | refine WL.yld rfl (Yld.indexS 1 rfl rfl rfl rfl rfl rfl (by omega)) ?_ | refine WL.yld rfl (Yld.indexS 2 rfl rfl rfl rfl rfl rfl (by omega)) ?_ | refine WL.yld rfl (Yld.indexS _ rfl rfl rfl rfl rfl rfl (by omega)) ?_ | refine WL.yld rfl (Yld.indexA 0 rfl rfl rfl rfl rfl rfl (by omega)) ?_ | refine WL.yld rfl (Yld.indexA 1 rfl rfl rfl rfl rfl rfl (by omega)) ?_ | refine WL.yld rfl (Yld.indexA _ rfl rfl rfl rfl rfl rfl (by omega)) ?_)
    | ((with_reducible refine WL.isN_conv ?_); first | refine WL.yld rfl (Yld.convInt rfl rfl rfl rfl nrmQ) ?_)
    | ((with_reducible refine WL.isN_pick ?_); first | refine WL.yld rfl (Yld.pickT rfl rfl rfl) ?_ | refine WL.yld rfl (Yld.pickF rfl rfl rfl) ?_ | refine WL.yld rfl (Yld.pickTh rfl rfl gdQ rfl) ?_ | refine WL.yld rfl (Yld.pickFh rfl rfl gdQ rfl) ?_ | refine WL.yld rfl (Yld.pickB rfl rfl rfl rfl) ?_)
    | ((with_reducible refine WL.isN_call ?_); first | refine WL.step rfl (StepTo.callV (v := .bool T) (us := [.int .u32 x, .int .u32 fr, .int .u32 to]) rfl rfl rfl rfl rfl (by kernel_rfl) (fun w hw => q1 w) ?_) | refine WL.step rfl (StepTo.callV (v := .bool T) (us := [.int .i64 x, .int .i64 fr, .int .i64 to]) rfl rfl rfl rfl rfl (by kernel_rfl) (fun w hw => q2 w) ?_) | refine WL.step rfl (StepTo.callN [] (us := [.slice A n c, .int .u32 fr]) rfl rfl rfl rfl rfl (by kernel_rfl) (fun w hw => sorted_w A n c fr xs w (hw.lst 2 (ic_len .u32) (by omega) rfl) (by omega) hA hx) ?_) | refine WL.yld rfl (Yld.lenSlice rfl rfl rfl) ?_ | refine WL.yld rfl (Yld.lenStr rfl rfl rfl) ?_)
    | ((with_reducible refine WL.isT ?_); first | refine WL.skipT rfl rfl rfl rfl gdQ ?_ | refine WL.skipU rfl rfl rfl rfl ?_ | refine WL.runT rfl rfl rfl gdQ ?_)
    | ((with_reducible refine WL.isF ?_); first | refine WL.skipF rfl rfl rfl rfl gdQ ?_ | refine WL.skipU rfl rfl rfl rfl ?_ | refine WL.runF rfl rfl rfl gdQ ?_)
    | with_reducible refine WC.block ?_
    | with_reducible refine WC.scope ?_
    | with_reducible refine WC.label ?_
    | with_reducible refine WQ.ngN ?_
    | with_reducible refine WQ.ngR ?_
    | with_reducible refine WQ.ngX ?_
    | with_reducible refine WC.skip ?_
    | with_reducible refine WC.ret ?_
    | with_reducible refine WC.exit ?_
    | with_reducible refine WQ.thenR ?_
    | with_reducible refine WQ.thenX ?_
    | with_reducible refine WQ.blkN ?_
    | with_reducible refine WQ.blkR ?_
    | ((with_reducible refine WQ.blkX ?_ ?_); focus rfl)
    | ((with_reducible refine WQ.blkY ?_ ?_); focus rfl)
    | refine WC.condT rfl ?_
    | refine WC.condF rfl ?_
    | refine WC.condTh rfl gdQ ?_
    | refine WC.condFh rfl gdQ ?_
    | (refine WC.cond rfl (fun hc => ?_) (fun hc => ?_) <;> (try first | (with_reducible replace hc := of_decide_eq_true hc) | (with_reducible replace hc := of_decide_eq_false hc) | (with_reducible replace hc := eqT hc) | (with_reducible replace hc := eqF hc) | (with_reducible replace hc := neT hc) | (with_reducible replace hc := neF hc) | (with_reducible replace hc := noT hc) | (with_reducible replace hc := noF hc)) <;> (try (exfalso; omega))))
  rintro v N ⟨A4, m4, c4, hm4, rfl, rfl⟩
  repeat' (first
    | with_reducible refine WL.nil ?_
    | with_reducible refine WQ.thenN ?_
    | with_reducible refine WQ.code ?_
    | with_reducible refine WC.seq ?_
    | with_reducible refine WC.region ?_
    | ((with_reducible refine WL.isN_move ?_); first | refine WL.yld rfl (Yld.pure rfl nrmQ) ?_)
    | ((with_reducible refine WL.isN_assign ?_); first | refine WL.yld rfl (Yld.pure rfl nrmQ) ?_)
    | ((with_reducible refine WL.isN_bin ?_); first | refine WL.yld rfl (Yld.pure rfl nrmQ) ?_ | refine WL.yld rfl (Yld.rem rfl rfl rfl rfl (by omega) (by omega)) ?_ | refine WL.yld rfl (Yld.quo rfl rfl rfl rfl (by omega) (by omega) nrmQ) ?_ | refine WL.yld rfl (Yld.eqlB rfl rfl rfl rfl) ?_ | refine WL.yld rfl (Yld.neqB rfl rfl rfl rfl) ?_ | refine WL.yld rfl (Yld.eqlA 4 rfl rfl rfl (by kernel_rfl) (by kernel_rfl) rfl rfl) ?_ | refine WL.yld rfl (Yld.neqA 4 rfl rfl rfl (by kernel_rfl) (by kernel_rfl) rfl rfl) ?_ | refine WL.yld rfl (Yld.quoT rfl rfl rfl rfl (by omega) nrmQ) ?_)
    | ((with_reducible refine WL.isN_un ?_); first | refine WL.yld rfl (Yld.pure rfl nrmQ) ?_)
    | ((with_reducible refine WL.isN_load ?_); first | refine WL.yld rfl (Yld.load rfl rfl rfl rfl cellQ) ?_ | refine WL.yld rfl (Yld.loadAgg rfl rfl rfl rfl rfl aggQ) ?_)
    | ((with_reducible refine WL.isN_iaddr ?_); first | refine WL.yld rfl (Yld.indexS 0 rfl rfl rfl rfl rfl rfl (by omega)) ?_ | refine WL.yld rfl (Yld.indexS 1 rfl rfl rfl rfl rfl rfl (by omega)) ?_ | refine WL.yld rfl (Yld.indexS 2 rfl rfl rfl rfl rfl rfl (by omega)) ?_ | refine WL.yld rfl (Yld.indexS _ rfl rfl rfl rfl rfl rfl (by omega)) ?_ | refine WL.yld rfl (Yld.indexA 0 rfl rfl rfl rfl rfl rfl (by omega)) ?_ | refine WL.yld rfl (Yld.indexA 1 rfl rfl rfl rfl rfl rfl (by omega)) ?_ | refine WL.yld rfl (Yld.indexA _ rfl rfl rfl rfl rfl rfl (by omega)) ?_)
    | ((with_reducible refine WL.isN_conv ?_); first | refine WL.yld rfl (Yld.convInt rfl rfl rfl rfl nrmQ) ?_)
    | ((with_reducible refine WL.isN_pick ?_); first | refine WL.yld rfl (Yld.pickT rfl rfl rfl) ?_ | refine WL.yld rfl (Yld.pickF rfl rfl rfl) ?_ | refine WL.yld rfl (Yld.pickTh rfl rfl gdQ rfl) ?_ | refine WL.yld rfl (Yld.pickFh rfl rfl gdQ rfl) ?_ | refine WL.yld rfl (Yld.pickB rfl rfl rfl rfl) ?_)
    | ((with_reducible refine WL.isN_call ?_); first | refine WL.step rfl (StepTo.callN [] (us := [.slice A n c]) rfl rfl rfl rfl rfl (by kernel_rfl) (fun w hw => ints_w A n c xs w (hw.lst 3 (ic_len .u32) (by omega) rfl) (by omega) hx) ?_) | refine WL.yld rfl (Yld.lenSlice rfl rfl rfl) ?_ | refine WL.yld rfl (Yld.lenStr rfl rfl rfl) ?_)
    | ((with_reducible refine WL.isT ?_); first | refine WL.skipT rfl rfl rfl rfl gdQ ?_ | refine WL.skipU rfl rfl rfl rfl ?_ | refine WL.runT rfl rfl rfl gdQ ?_)
    | ((with_reducible refine WL.isF ?_); first | refine WL.skipF rfl rfl rfl rfl gdQ ?_ | refine WL.skipU rfl rfl rfl rfl ?_ | refine WL.runF rfl rfl rfl gdQ ?_)
    | with_reducible refine WC.block ?_
    | with_reducible refine WC.scope ?_
    | with_reducible refine WC.label ?_
    | with_reducible refine WQ.ngN ?_
    | with_reducible refine WQ.ngR ?_
    | with_reducible refine WQ.ngX ?_
    | with_reducible refine WC.skip ?_
    | with_reducible refine WC.ret ?_
    | with_reducible refine WC.exit ?_
    | with_reducible refine WQ.thenR ?_
    | with_reducible refine WQ.thenX ?_
    | with_reducible refine WQ.blkN ?_
    | with_reducible refine WQ.blkR ?_
    | ((with_reducible refine WQ.blkX ?_ ?_); focus rfl)
    | ((with_reducible refine WQ.blkY ?_ ?_); focus rfl)
    | refine WC.condT rfl ?_
    | refine WC.condF rfl ?_
    | refine WC.condTh rfl gdQ ?_
    | refine WC.condFh rfl gdQ ?_
    | (refine WC.cond rfl (fun hc => ?_) (fun hc => ?_) <;> (try first | (with_reducible replace hc := of_decide_eq_true hc) | (with_reducible replace hc := of_decide_eq_false hc) | (with_reducible replace hc := eqT hc) | (with_reducible replace hc := eqF hc) | (with_reducible replace hc := neT hc) | (with_reducible replace hc := neF hc) | (with_reducible replace hc := noT hc) | (with_reducible replace hc := noF hc)) <;> (try (exfalso; omega))))
  rintro v N ⟨A5, c5, rfl, rfl⟩
  repeat' (first
    | with_reducible refine WL.nil ?_
    | with_reducible refine WQ.thenN ?_
    | with_reducible refine WQ.code ?_
    | with_reducible refine WC.seq ?_
    | with_reducible refine WC.region ?_
    | ((with_reducible refine WL.isN_move ?_); first | refine WL.yld rfl (Yld.pure rfl nrmQ) ?_)
    | ((with_reducible refine WL.isN_assign ?_); first | refine WL.yld rfl (Yld.pure rfl nrmQ) ?_)
    | ((with_reducible refine WL.isN_bin ?_); first | refine WL.yld rfl (Yld.pure rfl nrmQ) ?_ | refine WL.yld rfl (Yld.rem rfl rfl rfl rfl (by omega) (by omega)) ?_ | refine WL.yld rfl (Yld.quo rfl rfl rfl rfl (by omega) (by omega) nrmQ) ?_ | refine WL.yld rfl (Yld.eqlB rfl rfl rfl rfl) ?_ | refine WL.yld rfl (Yld.neqB rfl rfl rfl rfl) ?_ | refine WL.yld rfl (Yld.eqlA 4 rfl rfl rfl (by kernel_rfl) (by kernel_rfl) rfl rfl) ?_ | refine WL.yld rfl (Yld.neqA 4 rfl rfl rfl (by kernel_rfl) (by kernel_rfl) rfl rfl) ?_ | refine WL.yld rfl (Yld.quoT rfl rfl rfl rfl (by omega) nrmQ) ?_)
    | ((with_reducible refine WL.isN_un ?_); first | refine WL.yld rfl (Yld.pure rfl nrmQ) ?_)
    | ((with_reducible refine WL.isN_load ?_); first | refine WL.yld rfl (Yld.load rfl rfl rfl rfl cellQ) ?_ | refine WL.yld rfl (Yld.loadAgg rfl rfl rfl rfl rfl aggQ) ?_)
    | ((with_reducible refine WL.isN_iaddr ?_); first | refine WL.yld rfl (Yld.indexS 0 rfl rfl rfl rfl rfl rfl (by omega)) ?_ | refine WL.yld rfl (Yld.indexS 1 rfl rfl rfl rfl rfl rfl (by omega)) ?_ | refine WL.yld rfl (Yld.indexS 2 rfl rfl rfl rfl rfl rfl (by omega)) ?_ | refine WL.yld rfl (Yld.indexS _ rfl rfl rfl rfl rfl rfl (by omega)) ?_ | refine WL.yld rfl (Yld.indexA 0 rfl rfl rfl rfl rfl rfl (by omega)) ?_ | refine WL.yld rfl (Yld.indexA 1 rfl rfl rfl rfl rfl rfl (by omega)) ?_ | refine WL.yld rfl (Yld.indexA _ rfl rfl rfl rfl rfl rfl (by omega)) ?_)
    | ((with_reducible refine WL.isN_conv ?_); first | refine WL.yld rfl (Yld.convInt rfl rfl rfl rfl nrmQ) ?_)
    | ((with_reducible refine WL.isN_pick ?_); first | refine WL.yld rfl (Yld.pickT rfl rfl rfl) ?_ | refine WL.yld rfl (Yld.pickF rfl rfl rfl) ?_ | refine WL.yld rfl (Yld.pickTh rfl rfl gdQ rfl) ?_ | refine WL.yld rfl (Yld.pickFh rfl rfl gdQ rfl) ?_ | refine WL.yld rfl (Yld.pickB rfl rfl rfl rfl) ?_)
    | ((with_reducible refine WL.isN_call ?_); first | refine WL.step rfl (StepTo.callN [] (us := [.slice A5 n c5, .int .i64 fr]) rfl rfl rfl rfl rfl (by kernel_rfl) (fun w hw => rsorted_w A5 n c5 fr xs w (hw.lstRow 0 (ic_len .i64) (by omega) rfl (by unfold maxLen; omega)) (by omega) hx hfr) ?_) | refine WL.yld rfl (Yld.lenSlice rfl rfl rfl) ?_ | refine WL.yld rfl (Yld.lenStr rfl rfl rfl) ?_)
    | ((with_reducible refine WL.isT ?_); first | refine WL.skipT rfl rfl rfl rfl gdQ ?_ | refine WL.skipU rfl rfl rfl rfl ?_ | refine WL.runT rfl rfl rfl gdQ ?_)
    | ((with_reducible refine WL.isF ?_); first | refine WL.skipF rfl rfl rfl rfl gdQ ?_ | refine WL.skipU rfl rfl rfl rfl ?_ | refine WL.runF rfl rfl rfl gdQ ?_)
    | with_reducible refine WC.block ?_
    | with_reducible refine WC.scope ?_
    | with_reducible refine WC.label ?_
    | with_reducible refine WQ.ngN ?_
    | with_reducible refine WQ.ngR ?_
    | with_reducible refine WQ.ngX ?_
    | with_reducible refine WC.skip ?_
    | with_reducible refine WC.ret ?_
    | with_reducible refine WC.exit ?_
    | with_reducible refine WQ.thenR ?_
    | with_reducible refine WQ.thenX ?_
    | with_reducible refine WQ.blkN ?_
    | with_reducible refine WQ.blkR ?_
    | ((with_reducible refine WQ.blkX ?_ ?_); focus rfl)
    | ((with_reducible refine WQ.blkY ?_ ?_); focus rfl)
    | refine WC.condT rfl ?_
    | refine WC.condF rfl ?_
    | refine WC.condTh rfl gdQ ?_
    | refine WC.condFh rfl gdQ ?_
    | (refine WC.cond rfl (fun hc => ?_) (fun hc => ?_) <;> (try first | (with_reducible replace hc := of_decide_eq_true hc) | (with_reducible replace hc := of_decide_eq_false hc) | (with_reducible replace hc := eqT hc) | (with_reducible replace hc := eqF hc) | (with_reducible replace hc := neT hc) | (with_reducible replace hc := neF hc) | (with_reducible replace hc := noT hc) | (with_reducible replace hc := noF hc)) <;> (try (exfalso; omega))))
  rintro v N ⟨A6, m6, c6, hm6, rfl, rfl⟩
  obtain rfl : m6 = m4 := by omega
  repeat' (first
    | with_reducible refine WL.nil ?_
    | with_reducible refine WQ.thenN ?_
    | with_reducible refine WQ.code ?_
    | with_reducible refine WC.seq ?_
    | with_reducible refine WC.region ?_
    | ((with_reducible refine WL.isN_move ?_); first | refine WL.yld rfl (Yld.pure rfl nrmQ) ?_)
    | ((with_reducible refine WL.isN_assign ?_); first | refine WL.yld rfl (Yld.pure rfl nrmQ) ?_)
    | ((with_reducible refine WL.isN_bin ?_); first | refine WL.yld rfl (Yld.pure rfl nrmQ) ?_ | refine WL.yld rfl (Yld.rem rfl rfl rfl rfl (by omega) (by omega)) ?_ | refine WL.yld rfl (Yld.quo rfl rfl rfl rfl (by omega) (by omega) nrmQ) ?_ | refine WL.yld rfl (Yld.eqlB rfl rfl rfl rfl) ?_ | refine WL.yld rfl (Yld.neqB rfl rfl rfl rfl) ?_ | refine WL.yld rfl (Yld.eqlA 4 rfl rfl rfl (by kernel_rfl) (by kernel_rfl) rfl rfl) ?_ | refine WL.yld rfl (Yld.neqA 4 rfl rfl rfl (by kernel_rfl) (by kernel_rfl) rfl rfl) ?_ | refine WL.yld rfl (Yld.quoT rfl rfl rfl rfl (by omega) nrmQ) ?_)
    | ((with_reducible refine WL.isN_un ?_); first | refine WL.yld rfl (Yld.pure rfl nrmQ) ?_)
    | ((with_reducible refine WL.isN_load ?_); first | refine WL.yld rfl (Yld.load rfl rfl rfl rfl cellQ) ?_ | refine WL.yld rfl (Yld.loadAgg rfl rfl rfl rfl rfl aggQ) ?_)
    | ((with_reducible refine WL.isN_iaddr ?_); first | refine WL.yld rfl (Yld.indexS 0 rfl rfl rfl rfl rfl rfl (by omega)) ?_ | refine WL.yld rfl (Yld.indexS 1 rfl rfl rfl rfl rfl rfl (by omega)) ?_ | refine WL.yld rfl (Yld.indexS 2 rfl rfl rfl rfl rfl rfl (by omega)) ?_ | refine WL.yld rfl (Yld.indexS _ rfl rfl rfl rfl rfl rfl (by omega)) ?_ | refine WL.yld rfl (Yld.indexA 0 rfl rfl rfl rfl rfl rfl (by omega)) ?_ | refine WL.yld rfl (Yld.indexA 1 rfl rfl rfl rfl rfl rfl (by omega)) ?_ | refine WL.yld rfl (Yld.indexA _ rfl rfl rfl rfl rfl rfl (by omega)) ?_)
    | ((with_reducible refine WL.isN_conv ?_); first | refine WL.yld rfl (Yld.convInt rfl rfl rfl rfl nrmQ) ?_)
    | ((with_reducible refine WL.isN_pick ?_); first | refine WL.yld rfl (Yld.pickT rfl rfl rfl) ?_ | refine WL.yld rfl (Yld.pickF rfl rfl rfl) ?_ | refine WL.yld rfl (Yld.pickTh rfl rfl gdQ rfl) ?_ | refine WL.yld rfl (Yld.pickFh rfl rfl gdQ rfl) ?_ | refine WL.yld rfl (Yld.pickB rfl rfl rfl rfl) ?_)
    | ((with_reducible refine WL.isN_call ?_); first | refine WL.step rfl (StepTo.callV (v := .bool true) (us := [.slice A4 m6 c4, .slice A6 m6 c6]) rfl rfl rfl rfl rfl (by kernel_rfl) (fun w hw => same_q A4 A6 m6 c4 c6 (srt fr xs) w (hw.lstRow 2 (ic_len .u32) (by omega) rfl (by unfold maxLen; omega)) (hw.lstRow 0 (ic_len .i64) (by omega) rfl (by unfold maxLen; omega)) (by omega) (ru_srt hx)) ?_) | refine WL.yld rfl (Yld.lenSlice rfl rfl rfl) ?_ | refine WL.yld rfl (Yld.lenStr rfl rfl rfl) ?_)
    | ((with_reducible refine WL.isT ?_); first | refine WL.skipT rfl rfl rfl rfl gdQ ?_ | refine WL.skipU rfl rfl rfl rfl ?_ | refine WL.runT rfl rfl rfl gdQ ?_)
    | ((with_reducible refine WL.isF ?_); first | refine WL.skipF rfl rfl rfl rfl gdQ ?_ | refine WL.skipU rfl rfl rfl rfl ?_ | refine WL.runF rfl rfl rfl gdQ ?_)
    | with_reducible refine WC.block ?_
    | with_reducible refine WC.scope ?_
    | with_reducible refine WC.label ?_
    | with_reducible refine WQ.ngN ?_
    | with_reducible refine WQ.ngR ?_
    | with_reducible refine WQ.ngX ?_
    | with_reducible refine WC.skip ?_
    | with_reducible refine WC.ret ?_
    | with_reducible refine WC.exit ?_
    | with_reducible refine WQ.thenR ?_
    | with_reducible refine WQ.thenX ?_
    | with_reducible refine WQ.blkN ?_
    | with_reducible refine WQ.blkR ?_
    | ((with_reducible refine WQ.blkX ?_ ?_); focus rfl)
    | ((with_reducible refine WQ.blkY ?_ ?_); focus rfl)
    | refine WC.condT rfl ?_
    | refine WC.condF rfl ?_
    | refine WC.condTh rfl gdQ ?_
    | refine WC.condFh rfl gdQ ?_
    | (refine WC.cond rfl (fun hc => ?_) (fun hc => ?_) <;> (try first | (with_reducible replace hc := of_decide_eq_true hc) | (with_reducible replace hc := of_decide_eq_false hc) | (with_reducible replace hc := eqT hc) | (with_reducible replace hc := eqF hc) | (with_reducible replace hc := neT hc) | (with_reducible replace hc := neF hc) | (with_reducible replace hc := noT hc) | (with_reducible replace hc := noF hc)) <;> (try (exfalso; omega))))
  exact WQ.body (Reads.tmp rfl rfl) fun w' hw' => ⟨by rfl, hw'.ext.below⟩
end Go.Proofs.Ytgamndfgcbapgaa
