/- The digest: the examples, and the laws ShaLengths and ShaBytes. -/
import Derived.Test.YtgknadnfckgdbaaShE
import Derived.Test.YtgknadnfckgdbaaOpen
namespace Go.Proofs.Ytgknadnfckgdbaa
open Go.RowKit
open Go.Proofs.Ytgknadnfckgdbaa.Sha
set_option linter.unusedVariables false
set_option maxRecDepth 100000

theorem eqL_self {s : List UInt8} : Value.bool (s == s) = .bool true := by simp
theorem neL_self {s : List UInt8} : Value.bool (!(s == s)) = .bool false := by simp
theorem eqZ_self {x : Int} : Value.bool (x == x) = .bool true := by simp
theorem neZ_self {x : Int} : Value.bool (x != x) = .bool false := by simp
theorem shown_q (w : World) : Calls Try.prog 8 #[] w fun e w' => e = .returned (.bool true) ∧ Below w.heap.size w w' := by
  have q1 := fun w => sum_q [] (by simp) w
  have q2 := fun w => sum_q [97, 98, 99] (by simp) w
  rw [sum_nothing] at q1
  rw [sum_abc] at q2
  refine enterW (fun _ => False) _ Try.func8 rfl (by simp only [Try.ntmps8, List.length_cons, List.length_nil, Nat.reduceAdd, Nat.reduceSub]; rfl) ?_
  repeat' (first
    | with_reducible refine WL.nil ?_
    | with_reducible refine WQ.thenN ?_
    | with_reducible refine WQ.code ?_
    | with_reducible refine WC.seq ?_
    | with_reducible refine WC.region ?_
    | ((with_reducible refine WL.isN_move ?_); first | refine WL.yld rfl (Yld.pure rfl nrmQ) ?_)
    | ((with_reducible refine WL.isN_assign ?_); first | refine WL.yld rfl (Yld.pure rfl nrmQ) ?_)
    | ((with_reducible refine WL.isN_bin ?_); first | refine WL.yld rfl ((Yld.eqS (s := [0xe3, 0xb0, 0xc4, 0x42, 0x98, 0xfc, 0x1c, 0x14, 0x9a, 0xfb, 0xf4, 0xc8, 0x99, 0x6f, 0xb9, 0x24, 0x27, 0xae, 0x41, 0xe4, 0x64, 0x9b, 0x93, 0x4c, 0xa4, 0x95, 0x99, 0x1b, 0x78, 0x52, 0xb8, 0x55]) (t := [0xe3, 0xb0, 0xc4, 0x42, 0x98, 0xfc, 0x1c, 0x14, 0x9a, 0xfb, 0xf4, 0xc8, 0x99, 0x6f, 0xb9, 0x24, 0x27, 0xae, 0x41, 0xe4, 0x64, 0x9b, 0x93, 0x4c, 0xa4, 0x95, 0x99, 0x1b, 0x78, 0x52, 0xb8, 0x55]) rfl rfl (by kernel_rfl)).as eqL_self) ?_ | refine WL.yld rfl ((Yld.eqS (s := [0xba, 0x78, 0x16, 0xbf, 0x8f, 0x01, 0xcf, 0xea, 0x41, 0x41, 0x40, 0xde, 0x5d, 0xae, 0x22, 0x23, 0xb0, 0x03, 0x61, 0xa3, 0x96, 0x17, 0x7a, 0x9c, 0xb4, 0x10, 0xff, 0x61, 0xf2, 0x00, 0x15, 0xad]) (t := [0xba, 0x78, 0x16, 0xbf, 0x8f, 0x01, 0xcf, 0xea, 0x41, 0x41, 0x40, 0xde, 0x5d, 0xae, 0x22, 0x23, 0xb0, 0x03, 0x61, 0xa3, 0x96, 0x17, 0x7a, 0x9c, 0xb4, 0x10, 0xff, 0x61, 0xf2, 0x00, 0x15, 0xad]) rfl rfl (by kernel_rfl)).as eqL_self) ?_ | refine WL.yld rfl (Yld.pure rfl nrmQ) ?_ | refine WL.yld rfl (Yld.rem rfl rfl rfl rfl (by omega) (by omega)) ?_ | refine WL.yld rfl (Yld.quo rfl rfl rfl rfl (by omega) (by omega) nrmQ) ?_ | refine WL.yld rfl (Yld.eqlB rfl rfl rfl rfl) ?_ | refine WL.yld rfl (Yld.neqB rfl rfl rfl rfl) ?_ | refine WL.yld rfl (Yld.eqlA 4 rfl rfl rfl (by kernel_rfl) (by kernel_rfl) rfl rfl) ?_ | refine WL.yld rfl (Yld.neqA 4 rfl rfl rfl (by kernel_rfl) (by kernel_rfl) rfl rfl) ?_ | refine WL.yld rfl (Yld.quoT rfl rfl rfl rfl (by omega) nrmQ) ?_)
    | ((with_reducible refine WL.isN_pick ?_); first | refine WL.yld rfl (Yld.pickT rfl rfl rfl) ?_ | refine WL.yld rfl (Yld.pickF rfl rfl rfl) ?_ | refine WL.yld rfl (Yld.pickTh rfl rfl gdQ rfl) ?_ | refine WL.yld rfl (Yld.pickFh rfl rfl gdQ rfl) ?_ | refine WL.yld rfl (Yld.pickB rfl rfl rfl rfl) ?_)
    | ((with_reducible refine WL.isN_call ?_); first | refine WL.step rfl (StepTo.callV (v := .string (bs [0xe3, 0xb0, 0xc4, 0x42, 0x98, 0xfc, 0x1c, 0x14, 0x9a, 0xfb, 0xf4, 0xc8, 0x99, 0x6f, 0xb9, 0x24, 0x27, 0xae, 0x41, 0xe4, 0x64, 0x9b, 0x93, 0x4c, 0xa4, 0x95, 0x99, 0x1b, 0x78, 0x52, 0xb8, 0x55])) (us := [.string (bs [])]) rfl rfl rfl rfl rfl (by kernel_rfl) (fun w hw => q1 w) ?_) | refine WL.step rfl (StepTo.callV (v := .string (bs [0xba, 0x78, 0x16, 0xbf, 0x8f, 0x01, 0xcf, 0xea, 0x41, 0x41, 0x40, 0xde, 0x5d, 0xae, 0x22, 0x23, 0xb0, 0x03, 0x61, 0xa3, 0x96, 0x17, 0x7a, 0x9c, 0xb4, 0x10, 0xff, 0x61, 0xf2, 0x00, 0x15, 0xad])) (us := [.string (bs [97, 98, 99])]) rfl rfl rfl rfl rfl (by kernel_rfl) (fun w hw => q2 w) ?_))
    | ((with_reducible refine WL.isT ?_); first | refine WL.skipT rfl rfl rfl rfl gdQ ?_ | refine WL.skipU rfl rfl rfl rfl ?_ | refine WL.runT rfl rfl rfl gdQ ?_)
    | ((with_reducible refine WL.isF ?_); first | refine WL.skipF rfl rfl rfl rfl gdQ ?_ | refine WL.skipU rfl rfl rfl rfl ?_ | refine WL.runF rfl rfl rfl gdQ ?_)
    | with_reducible refine WC.block ?_
    | with_reducible refine WC.scope ?_
    | with_reducible refine WC.label ?_
    | with_reducible refine WQ.ngN ?_
    | with_reducible refine WQ.ngR ?_
    | with_reducible refine WQ.ngX ?_
    | with_reducible refine WC.skip ?_
    | with_reducible refine WC.ret ?_
    | with_reducible refine WC.exit ?_
    | with_reducible refine WQ.thenR ?_
    | with_reducible refine WQ.thenX ?_
    | with_reducible refine WQ.blkN ?_
    | with_reducible refine WQ.blkR ?_
    | ((with_reducible refine WQ.blkX ?_ ?_); focus rfl)
    | ((with_reducible refine WQ.blkY ?_ ?_); focus rfl)
    | refine WC.condT rfl ?_
    | refine WC.condF rfl ?_
    | refine WC.condTh rfl gdQ ?_
    | refine WC.condFh rfl gdQ ?_
    | (refine WC.cond rfl (fun hc => ?_) (fun hc => ?_) <;> (try first | (with_reducible replace hc := of_decide_eq_true hc) | (with_reducible replace hc := of_decide_eq_false hc) | (with_reducible replace hc := eqT hc) | (with_reducible replace hc := eqF hc) | (with_reducible replace hc := neT hc) | (with_reducible replace hc := neF hc) | (with_reducible replace hc := noT hc) | (with_reducible replace hc := noF hc)) <;> (try (exfalso; omega))))
  exact WQ.body (Reads.tmp rfl rfl) fun w' hw' => ⟨by rfl, hw'.ext.below⟩
theorem u8_ofNat {a b : Nat} (h : UInt8.ofNat a = UInt8.ofNat b) : a % 256 = b % 256 := by
  have := congrArg UInt8.toNat h
  simpa using this
theorem be8_inj {m k : Nat} (hm : m < 72057594037927936) (hk : k < 72057594037927936) (h : be8 m = be8 k) : m = k := by
  unfold be8 at h
  simp only [List.cons.injEq, and_true] at h
  obtain ⟨h0, h1, h2, h3, h4, h5, h6, h7⟩ := h
  have a1 := u8_ofNat h1
  have a2 := u8_ofNat h2
  have a3 := u8_ofNat h3
  have a4 := u8_ofNat h4
  have a5 := u8_ofNat h5
  have a6 := u8_ofNat h6
  have a7 := u8_ofNat h7
  clear h0 h1 h2 h3 h4 h5 h6 h7
  omega
theorem pad_inj {a b : Nat} (ha : a ≤ 1099511627776) (hb : b ≤ 1099511627776) (h : pad a = pad b) : a = b := by
  have hl := congrArg List.length h
  rw [pad_len, pad_len] at hl
  have hn : noughts a = noughts b := by omega
  unfold pad at h
  rw [hn] at h
  simp only [List.cons.injEq, true_and] at h
  have := List.append_cancel_left h
  have := be8_inj (by omega) (by omega) this
  omega

set_option maxHeartbeats 4000000 in
theorem shaLengths_walk (a b : Int) (w : World) (w0 : (Lit.int .i64 a).wf = true) (w1 : (Lit.int .i64 b).wf = true) :
    Calls Try.prog 7 #[.int .i64 a, .int .i64 b] w fun e w' => e = .returned (.bool true) ∧ Below w.heap.size w w' := by
  clear w0 w1
  refine enterW (fun _ => False) _ Try.func7 rfl (by simp only [Try.ntmps7, List.length_cons, List.length_nil, Nat.reduceAdd, Nat.reduceSub]; rfl) ?_
  by_cases ha : a < 0
  · have g1 := decide_eq_true ha
    repeat' (first
    | with_reducible refine WL.nil ?_
    | with_reducible refine WQ.thenN ?_
    | with_reducible refine WQ.code ?_
    | with_reducible refine WC.seq ?_
    | with_reducible refine WC.region ?_
    | ((with_reducible refine WL.isN_move ?_); first | refine WL.yld rfl (Yld.pure rfl nrmQ) ?_)
    | ((with_reducible refine WL.isN_assign ?_); first | refine WL.yld rfl (Yld.pure rfl nrmQ) ?_)
    | ((with_reducible refine WL.isN_bin ?_); first | refine WL.yld rfl (Yld.pure rfl nrmQ) ?_ | refine WL.yld rfl (Yld.rem rfl rfl rfl rfl (by omega) (by omega)) ?_ | refine WL.yld rfl (Yld.quo rfl rfl rfl rfl (by omega) (by omega) nrmQ) ?_ | refine WL.yld rfl (Yld.eqlB rfl rfl rfl rfl) ?_ | refine WL.yld rfl (Yld.neqB rfl rfl rfl rfl) ?_ | refine WL.yld rfl (Yld.eqlA 4 rfl rfl rfl (by kernel_rfl) (by kernel_rfl) rfl rfl) ?_ | refine WL.yld rfl (Yld.neqA 4 rfl rfl rfl (by kernel_rfl) (by kernel_rfl) rfl rfl) ?_ | refine WL.yld rfl (Yld.quoT rfl rfl rfl rfl (by omega) nrmQ) ?_)
    | ((with_reducible refine WL.isN_un ?_); first | refine WL.yld rfl (Yld.pure rfl nrmQ) ?_)
    | ((with_reducible refine WL.isN_pick ?_); first | refine WL.yld rfl (Yld.pickT rfl rfl rfl) ?_ | refine WL.yld rfl (Yld.pickF rfl rfl rfl) ?_ | refine WL.yld rfl (Yld.pickTh rfl rfl gdQ rfl) ?_ | refine WL.yld rfl (Yld.pickFh rfl rfl gdQ rfl) ?_ | refine WL.yld rfl (Yld.pickB rfl rfl rfl rfl) ?_)
    | ((with_reducible refine WL.isN_call ?_); first | refine WL.step rfl (StepTo.callV (v := .bool true) (us := []) rfl rfl rfl rfl rfl (by kernel_rfl) (fun w hw => shown_q w) ?_))
    | ((with_reducible refine WL.isT ?_); first | refine WL.skipT rfl rfl rfl rfl gdQ ?_ | refine WL.skipU rfl rfl rfl rfl ?_ | refine WL.runT rfl rfl rfl gdQ ?_)
    | ((with_reducible refine WL.isF ?_); first | refine WL.skipF rfl rfl rfl rfl gdQ ?_ | refine WL.skipU rfl rfl rfl rfl ?_ | refine WL.runF rfl rfl rfl gdQ ?_)
    | with_reducible refine WC.block ?_
    | with_reducible refine WC.scope ?_
    | with_reducible refine WC.label ?_
    | with_reducible refine WQ.ngN ?_
    | with_reducible refine WQ.ngR ?_
    | with_reducible refine WQ.ngX ?_
    | with_reducible refine WC.skip ?_
    | with_reducible refine WC.ret ?_
    | with_reducible refine WC.exit ?_
    | with_reducible refine WQ.thenR ?_
    | with_reducible refine WQ.thenX ?_
    | with_reducible refine WQ.blkN ?_
    | with_reducible refine WQ.blkR ?_
    | ((with_reducible refine WQ.blkX ?_ ?_); focus rfl)
    | ((with_reducible refine WQ.blkY ?_ ?_); focus rfl)
    | refine WC.condT rfl ?_
    | refine WC.condF rfl ?_
    | refine WC.condTh rfl gdQ ?_
    | refine WC.condFh rfl gdQ ?_
    | (refine WC.cond rfl (fun hc => ?_) (fun hc => ?_) <;> (try first | (with_reducible replace hc := of_decide_eq_true hc) | (with_reducible replace hc := of_decide_eq_false hc) | (with_reducible replace hc := eqT hc) | (with_reducible replace hc := eqF hc) | (with_reducible replace hc := neT hc) | (with_reducible replace hc := neF hc) | (with_reducible replace hc := noT hc) | (with_reducible replace hc := noF hc)) <;> (try (exfalso; omega))))
    exact WQ.body (Reads.tmp rfl rfl) fun w' hw' => ⟨by rfl, hw'.ext.below⟩
  have g1 := decide_eq_false ha
  by_cases hb : b < 0
  · have g2 := decide_eq_true hb
    repeat' (first
    | with_reducible refine WL.nil ?_
    | with_reducible refine WQ.thenN ?_
    | with_reducible refine WQ.code ?_
    | with_reducible refine WC.seq ?_
    | with_reducible refine WC.region ?_
    | ((with_reducible refine WL.isN_move ?_); first | refine WL.yld rfl (Yld.pure rfl nrmQ) ?_)
    | ((with_reducible refine WL.isN_assign ?_); first | refine WL.yld rfl (Yld.pure rfl nrmQ) ?_)
    | ((with_reducible refine WL.isN_bin ?_); first | refine WL.yld rfl (Yld.pure rfl nrmQ) ?_ | refine WL.yld rfl (Yld.rem rfl rfl rfl rfl (by omega) (by omega)) ?_ | refine WL.yld rfl (Yld.quo rfl rfl rfl rfl (by omega) (by omega) nrmQ) ?_ | refine WL.yld rfl (Yld.eqlB rfl rfl rfl rfl) ?_ | refine WL.yld rfl (Yld.neqB rfl rfl rfl rfl) ?_ | refine WL.yld rfl (Yld.eqlA 4 rfl rfl rfl (by kernel_rfl) (by kernel_rfl) rfl rfl) ?_ | refine WL.yld rfl (Yld.neqA 4 rfl rfl rfl (by kernel_rfl) (by kernel_rfl) rfl rfl) ?_ | refine WL.yld rfl (Yld.quoT rfl rfl rfl rfl (by omega) nrmQ) ?_)
    | ((with_reducible refine WL.isN_un ?_); first | refine WL.yld rfl (Yld.pure rfl nrmQ) ?_)
    | ((with_reducible refine WL.isN_pick ?_); first | refine WL.yld rfl (Yld.pickT rfl rfl rfl) ?_ | refine WL.yld rfl (Yld.pickF rfl rfl rfl) ?_ | refine WL.yld rfl (Yld.pickTh rfl rfl gdQ rfl) ?_ | refine WL.yld rfl (Yld.pickFh rfl rfl gdQ rfl) ?_ | refine WL.yld rfl (Yld.pickB rfl rfl rfl rfl) ?_)
    | ((with_reducible refine WL.isN_call ?_); first | refine WL.step rfl (StepTo.callV (v := .bool true) (us := []) rfl rfl rfl rfl rfl (by kernel_rfl) (fun w hw => shown_q w) ?_))
    | ((with_reducible refine WL.isT ?_); first | refine WL.skipT rfl rfl rfl rfl gdQ ?_ | refine WL.skipU rfl rfl rfl rfl ?_ | refine WL.runT rfl rfl rfl gdQ ?_)
    | ((with_reducible refine WL.isF ?_); first | refine WL.skipF rfl rfl rfl rfl gdQ ?_ | refine WL.skipU rfl rfl rfl rfl ?_ | refine WL.runF rfl rfl rfl gdQ ?_)
    | with_reducible refine WC.block ?_
    | with_reducible refine WC.scope ?_
    | with_reducible refine WC.label ?_
    | with_reducible refine WQ.ngN ?_
    | with_reducible refine WQ.ngR ?_
    | with_reducible refine WQ.ngX ?_
    | with_reducible refine WC.skip ?_
    | with_reducible refine WC.ret ?_
    | with_reducible refine WC.exit ?_
    | with_reducible refine WQ.thenR ?_
    | with_reducible refine WQ.thenX ?_
    | with_reducible refine WQ.blkN ?_
    | with_reducible refine WQ.blkR ?_
    | ((with_reducible refine WQ.blkX ?_ ?_); focus rfl)
    | ((with_reducible refine WQ.blkY ?_ ?_); focus rfl)
    | refine WC.condT rfl ?_
    | refine WC.condF rfl ?_
    | refine WC.condTh rfl gdQ ?_
    | refine WC.condFh rfl gdQ ?_
    | (refine WC.cond rfl (fun hc => ?_) (fun hc => ?_) <;> (try first | (with_reducible replace hc := of_decide_eq_true hc) | (with_reducible replace hc := of_decide_eq_false hc) | (with_reducible replace hc := eqT hc) | (with_reducible replace hc := eqF hc) | (with_reducible replace hc := neT hc) | (with_reducible replace hc := neF hc) | (with_reducible replace hc := noT hc) | (with_reducible replace hc := noF hc)) <;> (try (exfalso; omega))))
    exact WQ.body (Reads.tmp rfl rfl) fun w' hw' => ⟨by rfl, hw'.ext.below⟩
  have g2 := decide_eq_false hb
  by_cases ha2 : a > 1099511627776
  · have g3 := decide_eq_true ha2
    repeat' (first
    | with_reducible refine WL.nil ?_
    | with_reducible refine WQ.thenN ?_
    | with_reducible refine WQ.code ?_
    | with_reducible refine WC.seq ?_
    | with_reducible refine WC.region ?_
    | ((with_reducible refine WL.isN_move ?_); first | refine WL.yld rfl (Yld.pure rfl nrmQ) ?_)
    | ((with_reducible refine WL.isN_assign ?_); first | refine WL.yld rfl (Yld.pure rfl nrmQ) ?_)
    | ((with_reducible refine WL.isN_bin ?_); first | refine WL.yld rfl (Yld.pure rfl nrmQ) ?_ | refine WL.yld rfl (Yld.rem rfl rfl rfl rfl (by omega) (by omega)) ?_ | refine WL.yld rfl (Yld.quo rfl rfl rfl rfl (by omega) (by omega) nrmQ) ?_ | refine WL.yld rfl (Yld.eqlB rfl rfl rfl rfl) ?_ | refine WL.yld rfl (Yld.neqB rfl rfl rfl rfl) ?_ | refine WL.yld rfl (Yld.eqlA 4 rfl rfl rfl (by kernel_rfl) (by kernel_rfl) rfl rfl) ?_ | refine WL.yld rfl (Yld.neqA 4 rfl rfl rfl (by kernel_rfl) (by kernel_rfl) rfl rfl) ?_ | refine WL.yld rfl (Yld.quoT rfl rfl rfl rfl (by omega) nrmQ) ?_)
    | ((with_reducible refine WL.isN_un ?_); first | refine WL.yld rfl (Yld.pure rfl nrmQ) ?_)
    | ((with_reducible refine WL.isN_pick ?_); first | refine WL.yld rfl (Yld.pickT rfl rfl rfl) ?_ | refine WL.yld rfl (Yld.pickF rfl rfl rfl) ?_ | refine WL.yld rfl (Yld.pickTh rfl rfl gdQ rfl) ?_ | refine WL.yld rfl (Yld.pickFh rfl rfl gdQ rfl) ?_ | refine WL.yld rfl (Yld.pickB rfl rfl rfl rfl) ?_)
    | ((with_reducible refine WL.isN_call ?_); first | refine WL.step rfl (StepTo.callV (v := .bool true) (us := []) rfl rfl rfl rfl rfl (by kernel_rfl) (fun w hw => shown_q w) ?_))
    | ((with_reducible refine WL.isT ?_); first | refine WL.skipT rfl rfl rfl rfl gdQ ?_ | refine WL.skipU rfl rfl rfl rfl ?_ | refine WL.runT rfl rfl rfl gdQ ?_)
    | ((with_reducible refine WL.isF ?_); first | refine WL.skipF rfl rfl rfl rfl gdQ ?_ | refine WL.skipU rfl rfl rfl rfl ?_ | refine WL.runF rfl rfl rfl gdQ ?_)
    | with_reducible refine WC.block ?_
    | with_reducible refine WC.scope ?_
    | with_reducible refine WC.label ?_
    | with_reducible refine WQ.ngN ?_
    | with_reducible refine WQ.ngR ?_
    | with_reducible refine WQ.ngX ?_
    | with_reducible refine WC.skip ?_
    | with_reducible refine WC.ret ?_
    | with_reducible refine WC.exit ?_
    | with_reducible refine WQ.thenR ?_
    | with_reducible refine WQ.thenX ?_
    | with_reducible refine WQ.blkN ?_
    | with_reducible refine WQ.blkR ?_
    | ((with_reducible refine WQ.blkX ?_ ?_); focus rfl)
    | ((with_reducible refine WQ.blkY ?_ ?_); focus rfl)
    | refine WC.condT rfl ?_
    | refine WC.condF rfl ?_
    | refine WC.condTh rfl gdQ ?_
    | refine WC.condFh rfl gdQ ?_
    | (refine WC.cond rfl (fun hc => ?_) (fun hc => ?_) <;> (try first | (with_reducible replace hc := of_decide_eq_true hc) | (with_reducible replace hc := of_decide_eq_false hc) | (with_reducible replace hc := eqT hc) | (with_reducible replace hc := eqF hc) | (with_reducible replace hc := neT hc) | (with_reducible replace hc := neF hc) | (with_reducible replace hc := noT hc) | (with_reducible replace hc := noF hc)) <;> (try (exfalso; omega))))
    exact WQ.body (Reads.tmp rfl rfl) fun w' hw' => ⟨by rfl, hw'.ext.below⟩
  have g3 := decide_eq_false ha2
  by_cases hb2 : b > 1099511627776
  · have g4 := decide_eq_true hb2
    repeat' (first
    | with_reducible refine WL.nil ?_
    | with_reducible refine WQ.thenN ?_
    | with_reducible refine WQ.code ?_
    | with_reducible refine WC.seq ?_
    | with_reducible refine WC.region ?_
    | ((with_reducible refine WL.isN_move ?_); first | refine WL.yld rfl (Yld.pure rfl nrmQ) ?_)
    | ((with_reducible refine WL.isN_assign ?_); first | refine WL.yld rfl (Yld.pure rfl nrmQ) ?_)
    | ((with_reducible refine WL.isN_bin ?_); first | refine WL.yld rfl (Yld.pure rfl nrmQ) ?_ | refine WL.yld rfl (Yld.rem rfl rfl rfl rfl (by omega) (by omega)) ?_ | refine WL.yld rfl (Yld.quo rfl rfl rfl rfl (by omega) (by omega) nrmQ) ?_ | refine WL.yld rfl (Yld.eqlB rfl rfl rfl rfl) ?_ | refine WL.yld rfl (Yld.neqB rfl rfl rfl rfl) ?_ | refine WL.yld rfl (Yld.eqlA 4 rfl rfl rfl (by kernel_rfl) (by kernel_rfl) rfl rfl) ?_ | refine WL.yld rfl (Yld.neqA 4 rfl rfl rfl (by kernel_rfl) (by kernel_rfl) rfl rfl) ?_ | refine WL.yld rfl (Yld.quoT rfl rfl rfl rfl (by omega) nrmQ) ?_)
    | ((with_reducible refine WL.isN_un ?_); first | refine WL.yld rfl (Yld.pure rfl nrmQ) ?_)
    | ((with_reducible refine WL.isN_pick ?_); first | refine WL.yld rfl (Yld.pickT rfl rfl rfl) ?_ | refine WL.yld rfl (Yld.pickF rfl rfl rfl) ?_ | refine WL.yld rfl (Yld.pickTh rfl rfl gdQ rfl) ?_ | refine WL.yld rfl (Yld.pickFh rfl rfl gdQ rfl) ?_ | refine WL.yld rfl (Yld.pickB rfl rfl rfl rfl) ?_)
    | ((with_reducible refine WL.isN_call ?_); first | refine WL.step rfl (StepTo.callV (v := .bool true) (us := []) rfl rfl rfl rfl rfl (by kernel_rfl) (fun w hw => shown_q w) ?_))
    | ((with_reducible refine WL.isT ?_); first | refine WL.skipT rfl rfl rfl rfl gdQ ?_ | refine WL.skipU rfl rfl rfl rfl ?_ | refine WL.runT rfl rfl rfl gdQ ?_)
    | ((with_reducible refine WL.isF ?_); first | refine WL.skipF rfl rfl rfl rfl gdQ ?_ | refine WL.skipU rfl rfl rfl rfl ?_ | refine WL.runF rfl rfl rfl gdQ ?_)
    | with_reducible refine WC.block ?_
    | with_reducible refine WC.scope ?_
    | with_reducible refine WC.label ?_
    | with_reducible refine WQ.ngN ?_
    | with_reducible refine WQ.ngR ?_
    | with_reducible refine WQ.ngX ?_
    | with_reducible refine WC.skip ?_
    | with_reducible refine WC.ret ?_
    | with_reducible refine WC.exit ?_
    | with_reducible refine WQ.thenR ?_
    | with_reducible refine WQ.thenX ?_
    | with_reducible refine WQ.blkN ?_
    | with_reducible refine WQ.blkR ?_
    | ((with_reducible refine WQ.blkX ?_ ?_); focus rfl)
    | ((with_reducible refine WQ.blkY ?_ ?_); focus rfl)
    | refine WC.condT rfl ?_
    | refine WC.condF rfl ?_
    | refine WC.condTh rfl gdQ ?_
    | refine WC.condFh rfl gdQ ?_
    | (refine WC.cond rfl (fun hc => ?_) (fun hc => ?_) <;> (try first | (with_reducible replace hc := of_decide_eq_true hc) | (with_reducible replace hc := of_decide_eq_false hc) | (with_reducible replace hc := eqT hc) | (with_reducible replace hc := eqF hc) | (with_reducible replace hc := neT hc) | (with_reducible replace hc := neF hc) | (with_reducible replace hc := noT hc) | (with_reducible replace hc := noF hc)) <;> (try (exfalso; omega))))
    exact WQ.body (Reads.tmp rfl rfl) fun w' hw' => ⟨by rfl, hw'.ext.below⟩
  have g4 := decide_eq_false hb2
  obtain ⟨x, rfl⟩ := Int.eq_ofNat_of_zero_le (by omega : 0 ≤ a)
  obtain ⟨y, rfl⟩ := Int.eq_ofNat_of_zero_le (by omega : 0 ≤ b)
  have q1 := fun w => pad_q x (by omega) w
  have q2 := fun w => pad_q y (by omega) w
  have hE : Value.bool ((pad x == pad y) == ((x : Int) == (y : Int))) = .bool true := by
    congr 1
    by_cases e : x = y
    · subst e; simp
    · have h1 : (pad x == pad y) = false := by
        rw [beq_eq_false_iff_ne]
        exact fun h => e (pad_inj (by omega) (by omega) h)
      have h2 : ((x : Int) == (y : Int)) = false := beqF (by omega)
      rw [h1, h2]; rfl
  generalize pad x = px at *
  generalize pad y = py at *
  repeat' (first
    | with_reducible refine WL.nil ?_
    | with_reducible refine WQ.thenN ?_
    | with_reducible refine WQ.code ?_
    | with_reducible refine WC.seq ?_
    | with_reducible refine WC.region ?_
    | ((with_reducible refine WL.isN_move ?_); first | refine WL.yld rfl (Yld.pure rfl nrmQ) ?_)
    | ((with_reducible refine WL.isN_assign ?_); first | refine WL.yld rfl (Yld.pure rfl nrmQ) ?_)
    | ((with_reducible refine WL.isN_bin ?_); first | refine WL.yld rfl (Yld.eqS rfl rfl rfl) ?_ | refine WL.yld rfl ((Yld.eqlB rfl rfl rfl rfl).as hE) ?_ | refine WL.yld rfl (Yld.pure rfl nrmQ) ?_ | refine WL.yld rfl (Yld.rem rfl rfl rfl rfl (by omega) (by omega)) ?_ | refine WL.yld rfl (Yld.quo rfl rfl rfl rfl (by omega) (by omega) nrmQ) ?_ | refine WL.yld rfl (Yld.eqlB rfl rfl rfl rfl) ?_ | refine WL.yld rfl (Yld.neqB rfl rfl rfl rfl) ?_ | refine WL.yld rfl (Yld.eqlA 4 rfl rfl rfl (by kernel_rfl) (by kernel_rfl) rfl rfl) ?_ | refine WL.yld rfl (Yld.neqA 4 rfl rfl rfl (by kernel_rfl) (by kernel_rfl) rfl rfl) ?_ | refine WL.yld rfl (Yld.quoT rfl rfl rfl rfl (by omega) nrmQ) ?_)
    | ((with_reducible refine WL.isN_un ?_); first | refine WL.yld rfl (Yld.pure rfl nrmQ) ?_)
    | ((with_reducible refine WL.isN_pick ?_); first | refine WL.yld rfl (Yld.pickT rfl rfl rfl) ?_ | refine WL.yld rfl (Yld.pickF rfl rfl rfl) ?_ | refine WL.yld rfl (Yld.pickTh rfl rfl gdQ rfl) ?_ | refine WL.yld rfl (Yld.pickFh rfl rfl gdQ rfl) ?_ | refine WL.yld rfl (Yld.pickB rfl rfl rfl rfl) ?_)
    | ((with_reducible refine WL.isN_call ?_); first | refine WL.step rfl (StepTo.callV (v := .bool true) (us := []) rfl rfl rfl rfl rfl (by kernel_rfl) (fun w hw => shown_q w) ?_) | refine WL.step rfl (StepTo.callV (v := .string (bs px)) (us := [.int .i64 x]) rfl rfl rfl rfl rfl (by kernel_rfl) (fun w hw => q1 w) ?_) | refine WL.step rfl (StepTo.callV (v := .string (bs py)) (us := [.int .i64 y]) rfl rfl rfl rfl rfl (by kernel_rfl) (fun w hw => q2 w) ?_))
    | ((with_reducible refine WL.isT ?_); first | refine WL.skipT rfl rfl rfl rfl gdQ ?_ | refine WL.skipU rfl rfl rfl rfl ?_ | refine WL.runT rfl rfl rfl gdQ ?_)
    | ((with_reducible refine WL.isF ?_); first | refine WL.skipF rfl rfl rfl rfl gdQ ?_ | refine WL.skipU rfl rfl rfl rfl ?_ | refine WL.runF rfl rfl rfl gdQ ?_)
    | with_reducible refine WC.block ?_
    | with_reducible refine WC.scope ?_
    | with_reducible refine WC.label ?_
    | with_reducible refine WQ.ngN ?_
    | with_reducible refine WQ.ngR ?_
    | with_reducible refine WQ.ngX ?_
    | with_reducible refine WC.skip ?_
    | with_reducible refine WC.ret ?_
    | with_reducible refine WC.exit ?_
    | with_reducible refine WQ.thenR ?_
    | with_reducible refine WQ.thenX ?_
    | with_reducible refine WQ.blkN ?_
    | with_reducible refine WQ.blkR ?_
    | ((with_reducible refine WQ.blkX ?_ ?_); focus rfl)
    | ((with_reducible refine WQ.blkY ?_ ?_); focus rfl)
    | refine WC.condT rfl ?_
    | refine WC.condF rfl ?_
    | refine WC.condTh rfl gdQ ?_
    | refine WC.condFh rfl gdQ ?_
    | (refine WC.cond rfl (fun hc => ?_) (fun hc => ?_) <;> (try first | (with_reducible replace hc := of_decide_eq_true hc) | (with_reducible replace hc := of_decide_eq_false hc) | (with_reducible replace hc := eqT hc) | (with_reducible replace hc := eqF hc) | (with_reducible replace hc := neT hc) | (with_reducible replace hc := neF hc) | (with_reducible replace hc := noT hc) | (with_reducible replace hc := noF hc)) <;> (try (exfalso; omega))))
  exact WQ.body (Reads.tmp rfl rfl) fun w' hw' => ⟨by rfl, hw'.ext.below⟩

set_option maxHeartbeats 4000000 in
theorem shaBytes_walk (s0 : ByteArray) (w : World) (w0 : s0.size ≤ maxLen) :
    Calls Try.prog 6 #[.string s0] w fun e w' => e = .returned (.bool true) ∧ Below w.heap.size w w' := by
  obtain ⟨s, rfl⟩ : ∃ s, s0 = bs s := ⟨_, (bs_eta s0).symm⟩
  clear w0
  by_cases hbig : s.length ≤ 300
  case neg =>
    have hg : decide ((s.length : Int) > 300) = true := decide_eq_true (by omega)
    refine enterW (fun _ => False) _ Try.func6 rfl (by simp only [Try.ntmps6, List.length_cons, List.length_nil, Nat.reduceAdd, Nat.reduceSub]; rfl) ?_
    repeat' (first
    | with_reducible refine WL.nil ?_
    | with_reducible refine WQ.thenN ?_
    | with_reducible refine WQ.code ?_
    | with_reducible refine WC.seq ?_
    | with_reducible refine WC.region ?_
    | ((with_reducible refine WL.isN_move ?_); first | refine WL.yld rfl (Yld.pure rfl nrmQ) ?_)
    | ((with_reducible refine WL.isN_assign ?_); first | refine WL.yld rfl (Yld.pure rfl nrmQ) ?_)
    | ((with_reducible refine WL.isN_bin ?_); first | refine WL.yld rfl (Yld.pure rfl nrmQ) ?_ | refine WL.yld rfl (Yld.rem rfl rfl rfl rfl (by omega) (by omega)) ?_ | refine WL.yld rfl (Yld.quo rfl rfl rfl rfl (by omega) (by omega) nrmQ) ?_ | refine WL.yld rfl (Yld.eqlB rfl rfl rfl rfl) ?_ | refine WL.yld rfl (Yld.neqB rfl rfl rfl rfl) ?_ | refine WL.yld rfl (Yld.eqlA 4 rfl rfl rfl (by kernel_rfl) (by kernel_rfl) rfl rfl) ?_ | refine WL.yld rfl (Yld.neqA 4 rfl rfl rfl (by kernel_rfl) (by kernel_rfl) rfl rfl) ?_ | refine WL.yld rfl (Yld.quoT rfl rfl rfl rfl (by omega) nrmQ) ?_)
    | ((with_reducible refine WL.isN_un ?_); first | refine WL.yld rfl (Yld.pure rfl nrmQ) ?_)
    | ((with_reducible refine WL.isN_build ?_); first | refine WL.yld rfl (Yld.build rfl rfl rfl) ?_)
    | ((with_reducible refine WL.isN_pick ?_); first | refine WL.yld rfl (Yld.pickT rfl rfl rfl) ?_ | refine WL.yld rfl (Yld.pickF rfl rfl rfl) ?_ | refine WL.yld rfl (Yld.pickTh rfl rfl gdQ rfl) ?_ | refine WL.yld rfl (Yld.pickFh rfl rfl gdQ rfl) ?_ | refine WL.yld rfl (Yld.pickB rfl rfl rfl rfl) ?_)
    | ((with_reducible refine WL.isN_call ?_); first | refine WL.step rfl (StepTo.callV (v := .bool true) (us := []) rfl rfl rfl rfl rfl (by kernel_rfl) (fun w hw => shown_q w) ?_) | refine WL.yld rfl (Yld.lenB rfl rfl rfl) ?_ | refine WL.yld rfl (Yld.lenSlice rfl rfl rfl) ?_ | refine WL.yld rfl (Yld.lenStr rfl rfl rfl) ?_)
    | ((with_reducible refine WL.isT ?_); first | refine WL.skipT rfl rfl rfl rfl gdQ ?_ | refine WL.skipU rfl rfl rfl rfl ?_ | refine WL.runT rfl rfl rfl gdQ ?_)
    | ((with_reducible refine WL.isF ?_); first | refine WL.skipF rfl rfl rfl rfl gdQ ?_ | refine WL.skipU rfl rfl rfl rfl ?_ | refine WL.runF rfl rfl rfl gdQ ?_)
    | ((with_reducible refine WL.isN_box ?_); first | refine WL.step rfl (StepTo.boxA rfl rfl rfl rfl (fun _ => ?_)) | refine WL.step rfl (StepTo.box1 rfl rfl rfl rfl rfl (fun _ => ?_)))
    | with_reducible refine WC.block ?_
    | with_reducible refine WC.scope ?_
    | with_reducible refine WC.label ?_
    | with_reducible refine WQ.ngN ?_
    | with_reducible refine WQ.ngR ?_
    | with_reducible refine WQ.ngX ?_
    | with_reducible refine WC.skip ?_
    | with_reducible refine WC.ret ?_
    | with_reducible refine WC.exit ?_
    | with_reducible refine WQ.thenR ?_
    | with_reducible refine WQ.thenX ?_
    | with_reducible refine WQ.blkN ?_
    | with_reducible refine WQ.blkR ?_
    | ((with_reducible refine WQ.blkX ?_ ?_); focus rfl)
    | ((with_reducible refine WQ.blkY ?_ ?_); focus rfl)
    | refine WC.condT rfl ?_
    | refine WC.condF rfl ?_
    | refine WC.condTh rfl gdQ ?_
    | refine WC.condFh rfl gdQ ?_
    | (refine WC.cond rfl (fun hc => ?_) (fun hc => ?_) <;> (try first | (with_reducible replace hc := of_decide_eq_true hc) | (with_reducible replace hc := of_decide_eq_false hc) | (with_reducible replace hc := eqT hc) | (with_reducible replace hc := eqF hc) | (with_reducible replace hc := neT hc) | (with_reducible replace hc := neF hc) | (with_reducible replace hc := noT hc) | (with_reducible replace hc := noF hc)) <;> (try (exfalso; omega))))
    exact WQ.body (Reads.tmp rfl rfl) fun w' hw' => ⟨by rfl, hw'.ext.below⟩
  have hg : decide ((s.length : Int) > 300) = false := decide_eq_false (by omega)
  have hS := fun w => sum_q s (by omega) w
  have hSl := sum_len s
  refine enterW (fun _ => False) _ Try.func6 rfl (by simp only [Try.ntmps6, List.length_cons, List.length_nil, Nat.reduceAdd, Nat.reduceSub]; rfl) ?_
  refine WC.nilFz 5 1 ?_
  repeat' (first
    | with_reducible refine WL.nil ?_
    | with_reducible refine WQ.thenN ?_
    | with_reducible refine WQ.code ?_
    | with_reducible refine WC.seq ?_
    | with_reducible refine WC.region ?_
    | ((with_reducible refine WL.isN_move ?_); first | refine WL.yld rfl (Yld.pure rfl nrmQ) ?_)
    | ((with_reducible refine WL.isN_assign ?_); first | refine WL.yld rfl (Yld.pure rfl nrmQ) ?_)
    | ((with_reducible refine WL.isN_bin ?_); first | refine WL.yld rfl (Yld.pure rfl nrmQ) ?_ | refine WL.yld rfl (Yld.rem rfl rfl rfl rfl (by omega) (by omega)) ?_ | refine WL.yld rfl (Yld.quo rfl rfl rfl rfl (by omega) (by omega) nrmQ) ?_ | refine WL.yld rfl (Yld.eqlB rfl rfl rfl rfl) ?_ | refine WL.yld rfl (Yld.neqB rfl rfl rfl rfl) ?_ | refine WL.yld rfl (Yld.eqlA 4 rfl rfl rfl (by kernel_rfl) (by kernel_rfl) rfl rfl) ?_ | refine WL.yld rfl (Yld.neqA 4 rfl rfl rfl (by kernel_rfl) (by kernel_rfl) rfl rfl) ?_ | refine WL.yld rfl (Yld.quoT rfl rfl rfl rfl (by omega) nrmQ) ?_)
    | ((with_reducible refine WL.isN_un ?_); first | refine WL.yld rfl (Yld.pure rfl nrmQ) ?_)
    | ((with_reducible refine WL.isN_build ?_); first | refine WL.yld rfl (Yld.build rfl rfl rfl) ?_)
    | ((with_reducible refine WL.isN_pick ?_); first | refine WL.yld rfl (Yld.pickT rfl rfl rfl) ?_ | refine WL.yld rfl (Yld.pickF rfl rfl rfl) ?_ | refine WL.yld rfl (Yld.pickTh rfl rfl gdQ rfl) ?_ | refine WL.yld rfl (Yld.pickFh rfl rfl gdQ rfl) ?_ | refine WL.yld rfl (Yld.pickB rfl rfl rfl rfl) ?_)
    | ((with_reducible refine WL.isN_call ?_); first | refine WL.step rfl (StepTo.callV (v := .bool true) (us := []) rfl rfl rfl rfl rfl (by kernel_rfl) (fun w hw => shown_q w) ?_) | refine WL.yld rfl (Yld.lenB rfl rfl rfl) ?_ | refine WL.yld rfl (Yld.lenSlice rfl rfl rfl) ?_ | refine WL.yld rfl (Yld.lenStr rfl rfl rfl) ?_)
    | ((with_reducible refine WL.isT ?_); first | refine WL.skipT rfl rfl rfl rfl gdQ ?_ | refine WL.skipU rfl rfl rfl rfl ?_ | refine WL.runT rfl rfl rfl gdQ ?_)
    | ((with_reducible refine WL.isF ?_); first | refine WL.skipF rfl rfl rfl rfl gdQ ?_ | refine WL.skipU rfl rfl rfl rfl ?_ | refine WL.runF rfl rfl rfl gdQ ?_)
    | ((with_reducible refine WL.isN_box ?_); first | refine WL.step rfl (StepTo.boxA rfl rfl rfl rfl (fun _ => ?_)) | refine WL.step rfl (StepTo.box1 rfl rfl rfl rfl rfl (fun _ => ?_)))
    | with_reducible refine WC.block ?_
    | with_reducible refine WC.scope ?_
    | with_reducible refine WC.label ?_
    | with_reducible refine WQ.ngN ?_
    | with_reducible refine WQ.ngR ?_
    | with_reducible refine WQ.ngX ?_
    | with_reducible refine WC.skip ?_
    | with_reducible refine WC.ret ?_
    | with_reducible refine WC.exit ?_
    | with_reducible refine WQ.thenR ?_
    | with_reducible refine WQ.thenX ?_
    | with_reducible refine WQ.blkN ?_
    | with_reducible refine WQ.blkR ?_
    | ((with_reducible refine WQ.blkX ?_ ?_); focus rfl)
    | ((with_reducible refine WQ.blkY ?_ ?_); focus rfl)
    | refine WC.condT rfl ?_
    | refine WC.condF rfl ?_
    | refine WC.condTh rfl gdQ ?_
    | refine WC.condFh rfl gdQ ?_
    | (refine WC.cond rfl (fun hc => ?_) (fun hc => ?_) <;> (try first | (with_reducible replace hc := of_decide_eq_true hc) | (with_reducible replace hc := of_decide_eq_false hc) | (with_reducible replace hc := eqT hc) | (with_reducible replace hc := eqF hc) | (with_reducible replace hc := neT hc) | (with_reducible replace hc := neF hc) | (with_reducible replace hc := noT hc) | (with_reducible replace hc := noF hc)) <;> (try (exfalso; omega))))
  rename_i bh
  refine WC.loop (fun mm τ H => ∃ (i : Nat) (p A : Option Addr) (c : Nat) (l : List UInt8), i ≤ s.length ∧ mm = s.length - i ∧ l = s.take i ∧ (p = none ∨ p = some ⟨bh, 0, none⟩) ∧ (l.length = 0 → A = none) ∧
      τ = [(0, .string (bs s)), (3, .bool true), (4, .pointer (some ⟨bh, 0, none⟩)), (5, .int .i64 i)] ∧
      H = [.box bh 34 [.pointer p, .slice A l.length c], .fz A l.length c 5 1 (l.map bv)])
    s.length _ _ [0, 1] ?_ ?_ ⟨0, none, none, 0, [], by omega, rfl, rfl, .inl rfl, fun _ => rfl, rfl, rfl⟩ ?_
  · exact (by repeat (first | exact Sub.nil | refine Sub.cons rfl ?_ | refine Sub.consE rfl (int_eq (by omega)) ?_))
  · exact ⟨by decide, rfl⟩
  rintro mm τ H ⟨i, p, A, c, l, hi, rfl, hl, hp, hA, rfl, rfl⟩
  by_cases hlt : i < s.length
  · have hll : l.length ≤ 300 := by rw [hl, List.length_take]; omega
    have hch : l ++ (s.take (i + 1)).drop i ++ [] = s.take (i + 1) := by
      have h1 : l = (s.take (i + 1)).take i := by rw [hl, List.take_take, Nat.min_eq_left (by omega)]
      rw [List.append_nil, h1, List.take_append_drop]
    have hcl : ((s.take (i + 1)).drop i).length ≤ 300 := by rw [List.length_drop, List.length_take]; omega
    obtain ⟨ch, hch2⟩ : ∃ ch, (s.take (i + 1)).drop i = ch := ⟨_, rfl⟩
    have hcv : Value.string (bs ((s.take (i + 1)).drop i)) = .string (bs ch) := by rw [hch2]
    rw [hch2] at hch hcl
    clear hl hch2
    repeat' (first
    | with_reducible refine WL.nil ?_
    | with_reducible refine WQ.thenN ?_
    | with_reducible refine WQ.code ?_
    | with_reducible refine WC.seq ?_
    | with_reducible refine WC.region ?_
    | ((with_reducible refine WL.isN_move ?_); first | refine WL.yld rfl (Yld.pure rfl nrmQ) ?_)
    | ((with_reducible refine WL.isN_assign ?_); first | refine WL.yld rfl (Yld.pure rfl nrmQ) ?_)
    | ((with_reducible refine WL.isN_bin ?_); first | refine WL.yld rfl (Yld.pure rfl nrmQ) ?_ | refine WL.yld rfl (Yld.rem rfl rfl rfl rfl (by omega) (by omega)) ?_ | refine WL.yld rfl (Yld.quo rfl rfl rfl rfl (by omega) (by omega) nrmQ) ?_ | refine WL.yld rfl (Yld.eqlB rfl rfl rfl rfl) ?_ | refine WL.yld rfl (Yld.neqB rfl rfl rfl rfl) ?_ | refine WL.yld rfl (Yld.eqlA 4 rfl rfl rfl (by kernel_rfl) (by kernel_rfl) rfl rfl) ?_ | refine WL.yld rfl (Yld.neqA 4 rfl rfl rfl (by kernel_rfl) (by kernel_rfl) rfl rfl) ?_ | refine WL.yld rfl (Yld.quoT rfl rfl rfl rfl (by omega) nrmQ) ?_)
    | ((with_reducible refine WL.isN_un ?_); first | refine WL.yld rfl (Yld.pure rfl nrmQ) ?_)
    | ((with_reducible refine WL.isN_build ?_); first | refine WL.yld rfl (Yld.build rfl rfl rfl) ?_)
    | ((with_reducible refine WL.isN_pick ?_); first | refine WL.yld rfl (Yld.pickT rfl rfl rfl) ?_ | refine WL.yld rfl (Yld.pickF rfl rfl rfl) ?_ | refine WL.yld rfl (Yld.pickTh rfl rfl gdQ rfl) ?_ | refine WL.yld rfl (Yld.pickFh rfl rfl gdQ rfl) ?_ | refine WL.yld rfl (Yld.pickB rfl rfl rfl rfl) ?_)
    | ((with_reducible refine WL.isN_call ?_); first | refine WL.yld rfl (Yld.lenB rfl rfl rfl) ?_ | refine WL.step rfl (StepTo.callP (us := [.pointer (some ⟨bh, 0, none⟩), .string (bs ch)]) [0, 1] [] ⟨by decide, rfl⟩ rfl ⟨by decide, rfl⟩ rfl rfl rfl rfl rfl rfl (by kernel_rfl) (fun w hw hS => hwr_w bh p A c l ch hp hA (by omega) w hS) ?_) | refine WL.yld rfl (Yld.lenSlice rfl rfl rfl) ?_ | refine WL.yld rfl (Yld.lenStr rfl rfl rfl) ?_)
    | ((with_reducible refine WL.isT ?_); first | refine WL.skipT rfl rfl rfl rfl gdQ ?_ | refine WL.skipU rfl rfl rfl rfl ?_ | refine WL.runT rfl rfl rfl gdQ ?_)
    | ((with_reducible refine WL.isF ?_); first | refine WL.skipF rfl rfl rfl rfl gdQ ?_ | refine WL.skipU rfl rfl rfl rfl ?_ | refine WL.runF rfl rfl rfl gdQ ?_)
    | ((with_reducible refine WL.isN_box ?_); first | refine WL.step rfl (StepTo.boxA rfl rfl rfl rfl (fun _ => ?_)) | refine WL.step rfl (StepTo.box1 rfl rfl rfl rfl rfl (fun _ => ?_)))
    | ((with_reducible refine WL.isN_slice ?_); first | refine WL.step rfl (StepTo.yld ((Yld.cutS (lo := i) (hi := i + 1) rfl rfl rfl rfl rfl rfl rfl (by omega) (by omega)).as hcv) rfl ?_))
    | with_reducible refine WC.block ?_
    | with_reducible refine WC.scope ?_
    | with_reducible refine WC.label ?_
    | with_reducible refine WQ.ngN ?_
    | with_reducible refine WQ.ngR ?_
    | with_reducible refine WQ.ngX ?_
    | with_reducible refine WC.skip ?_
    | with_reducible refine WC.ret ?_
    | with_reducible refine WC.exit ?_
    | with_reducible refine WQ.thenR ?_
    | with_reducible refine WQ.thenX ?_
    | with_reducible refine WQ.blkN ?_
    | with_reducible refine WQ.blkR ?_
    | ((with_reducible refine WQ.blkX ?_ ?_); focus rfl)
    | ((with_reducible refine WQ.blkY ?_ ?_); focus rfl)
    | refine WC.condT rfl ?_
    | refine WC.condF rfl ?_
    | refine WC.condTh rfl gdQ ?_
    | refine WC.condFh rfl gdQ ?_
    | (refine WC.cond rfl (fun hc => ?_) (fun hc => ?_) <;> (try first | (with_reducible replace hc := of_decide_eq_true hc) | (with_reducible replace hc := of_decide_eq_false hc) | (with_reducible replace hc := eqT hc) | (with_reducible replace hc := eqF hc) | (with_reducible replace hc := neT hc) | (with_reducible replace hc := neF hc) | (with_reducible replace hc := noT hc) | (with_reducible replace hc := noF hc)) <;> (try (exfalso; omega))))
    rintro v N ⟨rfl, A2, c2, hA2, rfl⟩
    have hl2 : (l ++ ch).length ≤ 600 := by rw [List.length_append]; omega
    generalize l ++ ch = l2 at *
    repeat' (first
    | with_reducible refine WL.nil ?_
    | with_reducible refine WQ.thenN ?_
    | with_reducible refine WQ.code ?_
    | with_reducible refine WC.seq ?_
    | with_reducible refine WC.region ?_
    | ((with_reducible refine WL.isN_move ?_); first | refine WL.yld rfl (Yld.pure rfl nrmQ) ?_)
    | ((with_reducible refine WL.isN_assign ?_); first | refine WL.yld rfl (Yld.pure rfl nrmQ) ?_)
    | ((with_reducible refine WL.isN_bin ?_); first | refine WL.yld rfl (Yld.pure rfl nrmQ) ?_ | refine WL.yld rfl (Yld.rem rfl rfl rfl rfl (by omega) (by omega)) ?_ | refine WL.yld rfl (Yld.quo rfl rfl rfl rfl (by omega) (by omega) nrmQ) ?_ | refine WL.yld rfl (Yld.eqlB rfl rfl rfl rfl) ?_ | refine WL.yld rfl (Yld.neqB rfl rfl rfl rfl) ?_ | refine WL.yld rfl (Yld.eqlA 4 rfl rfl rfl (by kernel_rfl) (by kernel_rfl) rfl rfl) ?_ | refine WL.yld rfl (Yld.neqA 4 rfl rfl rfl (by kernel_rfl) (by kernel_rfl) rfl rfl) ?_ | refine WL.yld rfl (Yld.quoT rfl rfl rfl rfl (by omega) nrmQ) ?_)
    | ((with_reducible refine WL.isN_un ?_); first | refine WL.yld rfl (Yld.pure rfl nrmQ) ?_)
    | ((with_reducible refine WL.isN_build ?_); first | refine WL.yld rfl (Yld.build rfl rfl rfl) ?_)
    | ((with_reducible refine WL.isN_pick ?_); first | refine WL.yld rfl (Yld.pickT rfl rfl rfl) ?_ | refine WL.yld rfl (Yld.pickF rfl rfl rfl) ?_ | refine WL.yld rfl (Yld.pickTh rfl rfl gdQ rfl) ?_ | refine WL.yld rfl (Yld.pickFh rfl rfl gdQ rfl) ?_ | refine WL.yld rfl (Yld.pickB rfl rfl rfl rfl) ?_)
    | ((with_reducible refine WL.isN_call ?_); first | refine WL.step rfl (StepTo.callP (us := [.pointer (some ⟨bh, 0, none⟩), .string (bs [])]) [0, 1] [] ⟨by decide, rfl⟩ rfl ⟨by decide, rfl⟩ rfl rfl rfl rfl rfl rfl (by kernel_rfl) (fun w hw hS => hwr_w bh (some ⟨bh, 0, none⟩) A2 c2 l2 [] (.inr rfl) hA2 (by simp; omega) w hS) ?_) | refine WL.yld rfl (Yld.lenSlice rfl rfl rfl) ?_ | refine WL.yld rfl (Yld.lenStr rfl rfl rfl) ?_)
    | ((with_reducible refine WL.isT ?_); first | refine WL.skipT rfl rfl rfl rfl gdQ ?_ | refine WL.skipU rfl rfl rfl rfl ?_ | refine WL.runT rfl rfl rfl gdQ ?_)
    | ((with_reducible refine WL.isF ?_); first | refine WL.skipF rfl rfl rfl rfl gdQ ?_ | refine WL.skipU rfl rfl rfl rfl ?_ | refine WL.runF rfl rfl rfl gdQ ?_)
    | ((with_reducible refine WL.isN_box ?_); first | refine WL.step rfl (StepTo.boxA rfl rfl rfl rfl (fun _ => ?_)) | refine WL.step rfl (StepTo.box1 rfl rfl rfl rfl rfl (fun _ => ?_)))
    | with_reducible refine WC.block ?_
    | with_reducible refine WC.scope ?_
    | with_reducible refine WC.label ?_
    | with_reducible refine WQ.ngN ?_
    | with_reducible refine WQ.ngR ?_
    | with_reducible refine WQ.ngX ?_
    | with_reducible refine WC.skip ?_
    | with_reducible refine WC.ret ?_
    | with_reducible refine WC.exit ?_
    | with_reducible refine WQ.thenR ?_
    | with_reducible refine WQ.thenX ?_
    | with_reducible refine WQ.blkN ?_
    | with_reducible refine WQ.blkR ?_
    | ((with_reducible refine WQ.blkX ?_ ?_); focus rfl)
    | ((with_reducible refine WQ.blkY ?_ ?_); focus rfl)
    | refine WC.condT rfl ?_
    | refine WC.condF rfl ?_
    | refine WC.condTh rfl gdQ ?_
    | refine WC.condFh rfl gdQ ?_
    | (refine WC.cond rfl (fun hc => ?_) (fun hc => ?_) <;> (try first | (with_reducible replace hc := of_decide_eq_true hc) | (with_reducible replace hc := of_decide_eq_false hc) | (with_reducible replace hc := eqT hc) | (with_reducible replace hc := eqF hc) | (with_reducible replace hc := neT hc) | (with_reducible replace hc := neF hc) | (with_reducible replace hc := noT hc) | (with_reducible replace hc := noF hc)) <;> (try (exfalso; omega))))
    rintro v N ⟨rfl, A3, c3, hA3, rfl⟩
    repeat' (first
    | with_reducible refine WL.nil ?_
    | with_reducible refine WQ.thenN ?_
    | with_reducible refine WQ.code ?_
    | with_reducible refine WC.seq ?_
    | with_reducible refine WC.region ?_
    | ((with_reducible refine WL.isN_move ?_); first | refine WL.yld rfl (Yld.pure rfl nrmQ) ?_)
    | ((with_reducible refine WL.isN_assign ?_); first | refine WL.yld rfl (Yld.pure rfl nrmQ) ?_)
    | ((with_reducible refine WL.isN_bin ?_); first | refine WL.yld rfl (Yld.pure rfl nrmQ) ?_ | refine WL.yld rfl (Yld.rem rfl rfl rfl rfl (by omega) (by omega)) ?_ | refine WL.yld rfl (Yld.quo rfl rfl rfl rfl (by omega) (by omega) nrmQ) ?_ | refine WL.yld rfl (Yld.eqlB rfl rfl rfl rfl) ?_ | refine WL.yld rfl (Yld.neqB rfl rfl rfl rfl) ?_ | refine WL.yld rfl (Yld.eqlA 4 rfl rfl rfl (by kernel_rfl) (by kernel_rfl) rfl rfl) ?_ | refine WL.yld rfl (Yld.neqA 4 rfl rfl rfl (by kernel_rfl) (by kernel_rfl) rfl rfl) ?_ | refine WL.yld rfl (Yld.quoT rfl rfl rfl rfl (by omega) nrmQ) ?_)
    | ((with_reducible refine WL.isN_un ?_); first | refine WL.yld rfl (Yld.pure rfl nrmQ) ?_)
    | ((with_reducible refine WL.isN_build ?_); first | refine WL.yld rfl (Yld.build rfl rfl rfl) ?_)
    | ((with_reducible refine WL.isN_pick ?_); first | refine WL.yld rfl (Yld.pickT rfl rfl rfl) ?_ | refine WL.yld rfl (Yld.pickF rfl rfl rfl) ?_ | refine WL.yld rfl (Yld.pickTh rfl rfl gdQ rfl) ?_ | refine WL.yld rfl (Yld.pickFh rfl rfl gdQ rfl) ?_ | refine WL.yld rfl (Yld.pickB rfl rfl rfl rfl) ?_)
    | ((with_reducible refine WL.isN_call ?_); first | refine WL.yld rfl (Yld.lenSlice rfl rfl rfl) ?_ | refine WL.yld rfl (Yld.lenStr rfl rfl rfl) ?_)
    | ((with_reducible refine WL.isT ?_); first | refine WL.skipT rfl rfl rfl rfl gdQ ?_ | refine WL.skipU rfl rfl rfl rfl ?_ | refine WL.runT rfl rfl rfl gdQ ?_)
    | ((with_reducible refine WL.isF ?_); first | refine WL.skipF rfl rfl rfl rfl gdQ ?_ | refine WL.skipU rfl rfl rfl rfl ?_ | refine WL.runF rfl rfl rfl gdQ ?_)
    | ((with_reducible refine WL.isN_box ?_); first | refine WL.step rfl (StepTo.boxA rfl rfl rfl rfl (fun _ => ?_)) | refine WL.step rfl (StepTo.box1 rfl rfl rfl rfl rfl (fun _ => ?_)))
    | with_reducible refine WC.block ?_
    | with_reducible refine WC.scope ?_
    | with_reducible refine WC.label ?_
    | with_reducible refine WQ.ngN ?_
    | with_reducible refine WQ.ngR ?_
    | with_reducible refine WQ.ngX ?_
    | with_reducible refine WC.skip ?_
    | with_reducible refine WC.ret ?_
    | with_reducible refine WC.exit ?_
    | with_reducible refine WQ.thenR ?_
    | with_reducible refine WQ.thenX ?_
    | with_reducible refine WQ.blkN ?_
    | with_reducible refine WQ.blkR ?_
    | ((with_reducible refine WQ.blkX ?_ ?_); focus rfl)
    | ((with_reducible refine WQ.blkY ?_ ?_); focus rfl)
    | refine WC.condT rfl ?_
    | refine WC.condF rfl ?_
    | refine WC.condTh rfl gdQ ?_
    | refine WC.condFh rfl gdQ ?_
    | (refine WC.cond rfl (fun hc => ?_) (fun hc => ?_) <;> (try first | (with_reducible replace hc := of_decide_eq_true hc) | (with_reducible replace hc := of_decide_eq_false hc) | (with_reducible replace hc := eqT hc) | (with_reducible replace hc := eqF hc) | (with_reducible replace hc := neT hc) | (with_reducible replace hc := neF hc) | (with_reducible replace hc := noT hc) | (with_reducible replace hc := noF hc)) <;> (try (exfalso; omega))))
    exact WQ.rnd (s.length - (i + 1)) _ _ [0, 1] (by repeat (first | exact Sub.nil | refine Sub.cons rfl ?_ | refine Sub.consE rfl (int_eq (by omega)) ?_)) ⟨by decide, rfl⟩ (by omega) ⟨i + 1, _, A3, c3, l2 ++ [], by omega, rfl, hch, .inr rfl, hA3, rfl, rfl⟩
  have hls : l = s := by rw [hl, List.take_of_length_le (by omega)]
  clear hl
  subst hls
  have hgl : decide ((i : Int) < (l.length : Int)) = false := decide_eq_false (by omega)
  have hw0 : ∀ w, Sat w (Bs [.box bh 34 [.pointer p, .slice A l.length c], .fz A l.length c 5 1 (l.map bv)]) [.box bh 34 [.pointer p, .slice A l.length c], .fz A l.length c 5 1 (l.map bv)] w → _ := fun w hS => hsum_w bh p A c l hA (by omega) w hS
  obtain ⟨S, hSS⟩ : ∃ S, Sha.sum l = S := ⟨_, rfl⟩
  rw [hSS] at hS hSl
  simp only [hSS] at hw0
  clear hSS
  repeat' (first
    | with_reducible refine WL.nil ?_
    | with_reducible refine WQ.thenN ?_
    | with_reducible refine WQ.code ?_
    | with_reducible refine WC.seq ?_
    | with_reducible refine WC.region ?_
    | ((with_reducible refine WL.isN_move ?_); first | refine WL.yld rfl (Yld.pure rfl nrmQ) ?_)
    | ((with_reducible refine WL.isN_assign ?_); first | refine WL.yld rfl (Yld.pure rfl nrmQ) ?_)
    | ((with_reducible refine WL.isN_bin ?_); first | refine WL.yld rfl (Yld.pure rfl nrmQ) ?_ | refine WL.yld rfl (Yld.rem rfl rfl rfl rfl (by omega) (by omega)) ?_ | refine WL.yld rfl (Yld.quo rfl rfl rfl rfl (by omega) (by omega) nrmQ) ?_ | refine WL.yld rfl (Yld.eqlB rfl rfl rfl rfl) ?_ | refine WL.yld rfl (Yld.neqB rfl rfl rfl rfl) ?_ | refine WL.yld rfl (Yld.eqlA 4 rfl rfl rfl (by kernel_rfl) (by kernel_rfl) rfl rfl) ?_ | refine WL.yld rfl (Yld.neqA 4 rfl rfl rfl (by kernel_rfl) (by kernel_rfl) rfl rfl) ?_ | refine WL.yld rfl (Yld.quoT rfl rfl rfl rfl (by omega) nrmQ) ?_)
    | ((with_reducible refine WL.isN_un ?_); first | refine WL.yld rfl (Yld.pure rfl nrmQ) ?_)
    | ((with_reducible refine WL.isN_build ?_); first | refine WL.yld rfl (Yld.build rfl rfl rfl) ?_)
    | ((with_reducible refine WL.isN_pick ?_); first | refine WL.yld rfl (Yld.pickT rfl rfl rfl) ?_ | refine WL.yld rfl (Yld.pickF rfl rfl rfl) ?_ | refine WL.yld rfl (Yld.pickTh rfl rfl gdQ rfl) ?_ | refine WL.yld rfl (Yld.pickFh rfl rfl gdQ rfl) ?_ | refine WL.yld rfl (Yld.pickB rfl rfl rfl rfl) ?_)
    | ((with_reducible refine WL.isN_call ?_); first | refine WL.yld rfl (Yld.lenB rfl rfl rfl) ?_ | refine WL.step rfl (StepTo.callP (us := [.pointer (some ⟨bh, 0, none⟩)]) [0, 1] [] ⟨by decide, rfl⟩ rfl ⟨by decide, rfl⟩ rfl rfl rfl rfl rfl rfl (by kernel_rfl) (fun w hw hS => hw0 w hS) ?_) | refine WL.yld rfl (Yld.lenSlice rfl rfl rfl) ?_ | refine WL.yld rfl (Yld.lenStr rfl rfl rfl) ?_)
    | ((with_reducible refine WL.isT ?_); first | refine WL.skipT rfl rfl rfl rfl gdQ ?_ | refine WL.skipU rfl rfl rfl rfl ?_ | refine WL.runT rfl rfl rfl gdQ ?_)
    | ((with_reducible refine WL.isF ?_); first | refine WL.skipF rfl rfl rfl rfl gdQ ?_ | refine WL.skipU rfl rfl rfl rfl ?_ | refine WL.runF rfl rfl rfl gdQ ?_)
    | ((with_reducible refine WL.isN_box ?_); first | refine WL.step rfl (StepTo.boxA rfl rfl rfl rfl (fun _ => ?_)) | refine WL.step rfl (StepTo.box1 rfl rfl rfl rfl rfl (fun _ => ?_)))
    | with_reducible refine WC.block ?_
    | with_reducible refine WC.scope ?_
    | with_reducible refine WC.label ?_
    | with_reducible refine WQ.ngN ?_
    | with_reducible refine WQ.ngR ?_
    | with_reducible refine WQ.ngX ?_
    | with_reducible refine WC.skip ?_
    | with_reducible refine WC.ret ?_
    | with_reducible refine WC.exit ?_
    | with_reducible refine WQ.thenR ?_
    | with_reducible refine WQ.thenX ?_
    | with_reducible refine WQ.blkN ?_
    | with_reducible refine WQ.blkR ?_
    | ((with_reducible refine WQ.blkX ?_ ?_); focus rfl)
    | ((with_reducible refine WQ.blkY ?_ ?_); focus rfl)
    | refine WC.condT rfl ?_
    | refine WC.condF rfl ?_
    | refine WC.condTh rfl gdQ ?_
    | refine WC.condFh rfl gdQ ?_
    | (refine WC.cond rfl (fun hc => ?_) (fun hc => ?_) <;> (try first | (with_reducible replace hc := of_decide_eq_true hc) | (with_reducible replace hc := of_decide_eq_false hc) | (with_reducible replace hc := eqT hc) | (with_reducible replace hc := eqF hc) | (with_reducible replace hc := neT hc) | (with_reducible replace hc := neF hc) | (with_reducible replace hc := noT hc) | (with_reducible replace hc := noF hc)) <;> (try (exfalso; omega))))
  rintro v N ⟨rfl, rfl⟩
  repeat' (first
    | with_reducible refine WL.nil ?_
    | with_reducible refine WQ.thenN ?_
    | with_reducible refine WQ.code ?_
    | with_reducible refine WC.seq ?_
    | with_reducible refine WC.region ?_
    | ((with_reducible refine WL.isN_move ?_); first | refine WL.yld rfl (Yld.pure rfl nrmQ) ?_)
    | ((with_reducible refine WL.isN_assign ?_); first | refine WL.yld rfl (Yld.pure rfl nrmQ) ?_)
    | ((with_reducible refine WL.isN_bin ?_); first | refine WL.yld rfl ((Yld.eqS rfl rfl rfl).as eqL_self) ?_ | refine WL.yld rfl (Yld.pure rfl nrmQ) ?_ | refine WL.yld rfl (Yld.rem rfl rfl rfl rfl (by omega) (by omega)) ?_ | refine WL.yld rfl (Yld.quo rfl rfl rfl rfl (by omega) (by omega) nrmQ) ?_ | refine WL.yld rfl (Yld.eqlB rfl rfl rfl rfl) ?_ | refine WL.yld rfl (Yld.neqB rfl rfl rfl rfl) ?_ | refine WL.yld rfl (Yld.eqlA 4 rfl rfl rfl (by kernel_rfl) (by kernel_rfl) rfl rfl) ?_ | refine WL.yld rfl (Yld.neqA 4 rfl rfl rfl (by kernel_rfl) (by kernel_rfl) rfl rfl) ?_ | refine WL.yld rfl (Yld.quoT rfl rfl rfl rfl (by omega) nrmQ) ?_)
    | ((with_reducible refine WL.isN_un ?_); first | refine WL.yld rfl (Yld.pure rfl nrmQ) ?_)
    | ((with_reducible refine WL.isN_build ?_); first | refine WL.yld rfl (Yld.build rfl rfl rfl) ?_)
    | ((with_reducible refine WL.isN_pick ?_); first | refine WL.yld rfl (Yld.pickT rfl rfl rfl) ?_ | refine WL.yld rfl (Yld.pickF rfl rfl rfl) ?_ | refine WL.yld rfl (Yld.pickTh rfl rfl gdQ rfl) ?_ | refine WL.yld rfl (Yld.pickFh rfl rfl gdQ rfl) ?_ | refine WL.yld rfl (Yld.pickB rfl rfl rfl rfl) ?_)
    | ((with_reducible refine WL.isN_call ?_); first | refine WL.step rfl (StepTo.callV (v := .string (bs S)) (us := [.string (bs l)]) rfl rfl rfl rfl rfl (by kernel_rfl) (fun w hw => hS w) ?_) | refine WL.step rfl (StepTo.callP (us := [.pointer (some ⟨bh, 0, none⟩)]) [0, 1] [] ⟨by decide, rfl⟩ rfl ⟨by decide, rfl⟩ rfl rfl rfl rfl rfl rfl (by kernel_rfl) (fun w hw hS => hw0 w hS) ?_) | refine WL.yld rfl (Yld.lenSlice rfl rfl rfl) ?_ | refine WL.yld rfl (Yld.lenStr rfl rfl rfl) ?_)
    | ((with_reducible refine WL.isT ?_); first | refine WL.skipT rfl rfl rfl rfl gdQ ?_ | refine WL.skipU rfl rfl rfl rfl ?_ | refine WL.runT rfl rfl rfl gdQ ?_)
    | ((with_reducible refine WL.isF ?_); first | refine WL.skipF rfl rfl rfl rfl gdQ ?_ | refine WL.skipU rfl rfl rfl rfl ?_ | refine WL.runF rfl rfl rfl gdQ ?_)
    | ((with_reducible refine WL.isN_box ?_); first | refine WL.step rfl (StepTo.boxA rfl rfl rfl rfl (fun _ => ?_)) | refine WL.step rfl (StepTo.box1 rfl rfl rfl rfl rfl (fun _ => ?_)))
    | with_reducible refine WC.block ?_
    | with_reducible refine WC.scope ?_
    | with_reducible refine WC.label ?_
    | with_reducible refine WQ.ngN ?_
    | with_reducible refine WQ.ngR ?_
    | with_reducible refine WQ.ngX ?_
    | with_reducible refine WC.skip ?_
    | with_reducible refine WC.ret ?_
    | with_reducible refine WC.exit ?_
    | with_reducible refine WQ.thenR ?_
    | with_reducible refine WQ.thenX ?_
    | with_reducible refine WQ.blkN ?_
    | with_reducible refine WQ.blkR ?_
    | ((with_reducible refine WQ.blkX ?_ ?_); focus rfl)
    | ((with_reducible refine WQ.blkY ?_ ?_); focus rfl)
    | refine WC.condT rfl ?_
    | refine WC.condF rfl ?_
    | refine WC.condTh rfl gdQ ?_
    | refine WC.condFh rfl gdQ ?_
    | (refine WC.cond rfl (fun hc => ?_) (fun hc => ?_) <;> (try first | (with_reducible replace hc := of_decide_eq_true hc) | (with_reducible replace hc := of_decide_eq_false hc) | (with_reducible replace hc := eqT hc) | (with_reducible replace hc := eqF hc) | (with_reducible replace hc := neT hc) | (with_reducible replace hc := neF hc) | (with_reducible replace hc := noT hc) | (with_reducible replace hc := noF hc)) <;> (try (exfalso; omega))))
  rintro v N ⟨rfl, rfl⟩
  repeat' (first
    | with_reducible refine WL.nil ?_
    | with_reducible refine WQ.thenN ?_
    | with_reducible refine WQ.code ?_
    | with_reducible refine WC.seq ?_
    | with_reducible refine WC.region ?_
    | ((with_reducible refine WL.isN_move ?_); first | refine WL.yld rfl (Yld.pure rfl nrmQ) ?_)
    | ((with_reducible refine WL.isN_assign ?_); first | refine WL.yld rfl (Yld.pure rfl nrmQ) ?_)
    | ((with_reducible refine WL.isN_bin ?_); first | refine WL.yld rfl (Yld.pure rfl nrmQ) ?_ | refine WL.yld rfl (Yld.rem rfl rfl rfl rfl (by omega) (by omega)) ?_ | refine WL.yld rfl (Yld.quo rfl rfl rfl rfl (by omega) (by omega) nrmQ) ?_ | refine WL.yld rfl (Yld.eqlB rfl rfl rfl rfl) ?_ | refine WL.yld rfl (Yld.neqB rfl rfl rfl rfl) ?_ | refine WL.yld rfl (Yld.eqlA 4 rfl rfl rfl (by kernel_rfl) (by kernel_rfl) rfl rfl) ?_ | refine WL.yld rfl (Yld.neqA 4 rfl rfl rfl (by kernel_rfl) (by kernel_rfl) rfl rfl) ?_ | refine WL.yld rfl (Yld.quoT rfl rfl rfl rfl (by omega) nrmQ) ?_)
    | ((with_reducible refine WL.isN_un ?_); first | refine WL.yld rfl (Yld.pure rfl nrmQ) ?_)
    | ((with_reducible refine WL.isN_build ?_); first | refine WL.yld rfl (Yld.build rfl rfl rfl) ?_)
    | ((with_reducible refine WL.isN_pick ?_); first | refine WL.yld rfl (Yld.pickT rfl rfl rfl) ?_ | refine WL.yld rfl (Yld.pickF rfl rfl rfl) ?_ | refine WL.yld rfl (Yld.pickTh rfl rfl gdQ rfl) ?_ | refine WL.yld rfl (Yld.pickFh rfl rfl gdQ rfl) ?_ | refine WL.yld rfl (Yld.pickB rfl rfl rfl rfl) ?_)
    | ((with_reducible refine WL.isN_call ?_); first | refine WL.step rfl (StepTo.callP (us := [.pointer (some ⟨bh, 0, none⟩)]) [0, 1] [] ⟨by decide, rfl⟩ rfl ⟨by decide, rfl⟩ rfl rfl rfl rfl rfl rfl (by kernel_rfl) (fun w hw hS => hw0 w hS) ?_) | refine WL.yld rfl (Yld.lenSlice rfl rfl rfl) ?_ | refine WL.yld rfl (Yld.lenStr rfl rfl rfl) ?_)
    | ((with_reducible refine WL.isT ?_); first | refine WL.skipT rfl rfl rfl rfl gdQ ?_ | refine WL.skipU rfl rfl rfl rfl ?_ | refine WL.runT rfl rfl rfl gdQ ?_)
    | ((with_reducible refine WL.isF ?_); first | refine WL.skipF rfl rfl rfl rfl gdQ ?_ | refine WL.skipU rfl rfl rfl rfl ?_ | refine WL.runF rfl rfl rfl gdQ ?_)
    | ((with_reducible refine WL.isN_box ?_); first | refine WL.step rfl (StepTo.boxA rfl rfl rfl rfl (fun _ => ?_)) | refine WL.step rfl (StepTo.box1 rfl rfl rfl rfl rfl (fun _ => ?_)))
    | with_reducible refine WC.block ?_
    | with_reducible refine WC.scope ?_
    | with_reducible refine WC.label ?_
    | with_reducible refine WQ.ngN ?_
    | with_reducible refine WQ.ngR ?_
    | with_reducible refine WQ.ngX ?_
    | with_reducible refine WC.skip ?_
    | with_reducible refine WC.ret ?_
    | with_reducible refine WC.exit ?_
    | with_reducible refine WQ.thenR ?_
    | with_reducible refine WQ.thenX ?_
    | with_reducible refine WQ.blkN ?_
    | with_reducible refine WQ.blkR ?_
    | ((with_reducible refine WQ.blkX ?_ ?_); focus rfl)
    | ((with_reducible refine WQ.blkY ?_ ?_); focus rfl)
    | refine WC.condT rfl ?_
    | refine WC.condF rfl ?_
    | refine WC.condTh rfl gdQ ?_
    | refine WC.condFh rfl gdQ ?_
    | (refine WC.cond rfl (fun hc => ?_) (fun hc => ?_) <;> (try first | (with_reducible replace hc := of_decide_eq_true hc) | (with_reducible replace hc := of_decide_eq_false hc) | (with_reducible replace hc := eqT hc) | (with_reducible replace hc := eqF hc) | (with_reducible replace hc := neT hc) | (with_reducible replace hc := neF hc) | (with_reducible replace hc := noT hc) | (with_reducible replace hc := noF hc)) <;> (try (exfalso; omega))))
  rintro v N ⟨rfl, rfl⟩
  repeat' (first
    | with_reducible refine WL.nil ?_
    | with_reducible refine WQ.thenN ?_
    | with_reducible refine WQ.code ?_
    | with_reducible refine WC.seq ?_
    | with_reducible refine WC.region ?_
    | ((with_reducible refine WL.isN_move ?_); first | refine WL.yld rfl (Yld.pure rfl nrmQ) ?_)
    | ((with_reducible refine WL.isN_assign ?_); first | refine WL.yld rfl (Yld.pure rfl nrmQ) ?_)
    | ((with_reducible refine WL.isN_bin ?_); first | refine WL.yld rfl ((Yld.eqS rfl rfl rfl).as eqL_self) ?_ | refine WL.yld rfl (Yld.pure rfl nrmQ) ?_ | refine WL.yld rfl (Yld.rem rfl rfl rfl rfl (by omega) (by omega)) ?_ | refine WL.yld rfl (Yld.quo rfl rfl rfl rfl (by omega) (by omega) nrmQ) ?_ | refine WL.yld rfl (Yld.eqlB rfl rfl rfl rfl) ?_ | refine WL.yld rfl (Yld.neqB rfl rfl rfl rfl) ?_ | refine WL.yld rfl (Yld.eqlA 4 rfl rfl rfl (by kernel_rfl) (by kernel_rfl) rfl rfl) ?_ | refine WL.yld rfl (Yld.neqA 4 rfl rfl rfl (by kernel_rfl) (by kernel_rfl) rfl rfl) ?_ | refine WL.yld rfl (Yld.quoT rfl rfl rfl rfl (by omega) nrmQ) ?_)
    | ((with_reducible refine WL.isN_un ?_); first | refine WL.yld rfl (Yld.pure rfl nrmQ) ?_)
    | ((with_reducible refine WL.isN_build ?_); first | refine WL.yld rfl (Yld.build rfl rfl rfl) ?_)
    | ((with_reducible refine WL.isN_pick ?_); first | refine WL.yld rfl (Yld.pickT rfl rfl rfl) ?_ | refine WL.yld rfl (Yld.pickF rfl rfl rfl) ?_ | refine WL.yld rfl (Yld.pickTh rfl rfl gdQ rfl) ?_ | refine WL.yld rfl (Yld.pickFh rfl rfl gdQ rfl) ?_ | refine WL.yld rfl (Yld.pickB rfl rfl rfl rfl) ?_)
    | ((with_reducible refine WL.isN_call ?_); first | refine WL.step rfl (StepTo.callP (us := [.pointer (some ⟨bh, 0, none⟩)]) [0, 1] [] ⟨by decide, rfl⟩ rfl ⟨by decide, rfl⟩ rfl rfl rfl rfl rfl rfl (by kernel_rfl) (fun w hw hS => hw0 w hS) ?_) | refine WL.yld rfl (Yld.lenSlice rfl rfl rfl) ?_ | refine WL.yld rfl (Yld.lenStr rfl rfl rfl) ?_)
    | ((with_reducible refine WL.isT ?_); first | refine WL.skipT rfl rfl rfl rfl gdQ ?_ | refine WL.skipU rfl rfl rfl rfl ?_ | refine WL.runT rfl rfl rfl gdQ ?_)
    | ((with_reducible refine WL.isF ?_); first | refine WL.skipF rfl rfl rfl rfl gdQ ?_ | refine WL.skipU rfl rfl rfl rfl ?_ | refine WL.runF rfl rfl rfl gdQ ?_)
    | ((with_reducible refine WL.isN_box ?_); first | refine WL.step rfl (StepTo.boxA rfl rfl rfl rfl (fun _ => ?_)) | refine WL.step rfl (StepTo.box1 rfl rfl rfl rfl rfl (fun _ => ?_)))
    | with_reducible refine WC.block ?_
    | with_reducible refine WC.scope ?_
    | with_reducible refine WC.label ?_
    | with_reducible refine WQ.ngN ?_
    | with_reducible refine WQ.ngR ?_
    | with_reducible refine WQ.ngX ?_
    | with_reducible refine WC.skip ?_
    | with_reducible refine WC.ret ?_
    | with_reducible refine WC.exit ?_
    | with_reducible refine WQ.thenR ?_
    | with_reducible refine WQ.thenX ?_
    | with_reducible refine WQ.blkN ?_
    | with_reducible refine WQ.blkR ?_
    | ((with_reducible refine WQ.blkX ?_ ?_); focus rfl)
    | ((with_reducible refine WQ.blkY ?_ ?_); focus rfl)
    | refine WC.condT rfl ?_
    | refine WC.condF rfl ?_
    | refine WC.condTh rfl gdQ ?_
    | refine WC.condFh rfl gdQ ?_
    | (refine WC.cond rfl (fun hc => ?_) (fun hc => ?_) <;> (try first | (with_reducible replace hc := of_decide_eq_true hc) | (with_reducible replace hc := of_decide_eq_false hc) | (with_reducible replace hc := eqT hc) | (with_reducible replace hc := eqF hc) | (with_reducible replace hc := neT hc) | (with_reducible replace hc := neF hc) | (with_reducible replace hc := noT hc) | (with_reducible replace hc := noF hc)) <;> (try (exfalso; omega))))
  rintro v N ⟨rfl, rfl⟩
  have h32 : ((S.length : Int) == 32) = true := beqT (by omega)
  repeat' (first
    | with_reducible refine WL.nil ?_
    | with_reducible refine WQ.thenN ?_
    | with_reducible refine WQ.code ?_
    | with_reducible refine WC.seq ?_
    | with_reducible refine WC.region ?_
    | ((with_reducible refine WL.isN_move ?_); first | refine WL.yld rfl (Yld.pure rfl nrmQ) ?_)
    | ((with_reducible refine WL.isN_assign ?_); first | refine WL.yld rfl (Yld.pure rfl nrmQ) ?_)
    | ((with_reducible refine WL.isN_bin ?_); first | refine WL.yld rfl (Yld.pure rfl nrmQ) ?_ | refine WL.yld rfl (Yld.rem rfl rfl rfl rfl (by omega) (by omega)) ?_ | refine WL.yld rfl (Yld.quo rfl rfl rfl rfl (by omega) (by omega) nrmQ) ?_ | refine WL.yld rfl (Yld.eqlB rfl rfl rfl rfl) ?_ | refine WL.yld rfl (Yld.neqB rfl rfl rfl rfl) ?_ | refine WL.yld rfl (Yld.eqlA 4 rfl rfl rfl (by kernel_rfl) (by kernel_rfl) rfl rfl) ?_ | refine WL.yld rfl (Yld.neqA 4 rfl rfl rfl (by kernel_rfl) (by kernel_rfl) rfl rfl) ?_ | refine WL.yld rfl (Yld.quoT rfl rfl rfl rfl (by omega) nrmQ) ?_)
    | ((with_reducible refine WL.isN_un ?_); first | refine WL.yld rfl (Yld.pure rfl nrmQ) ?_)
    | ((with_reducible refine WL.isN_build ?_); first | refine WL.yld rfl (Yld.build rfl rfl rfl) ?_)
    | ((with_reducible refine WL.isN_pick ?_); first | refine WL.yld rfl (Yld.pickT rfl rfl rfl) ?_ | refine WL.yld rfl (Yld.pickF rfl rfl rfl) ?_ | refine WL.yld rfl (Yld.pickTh rfl rfl gdQ rfl) ?_ | refine WL.yld rfl (Yld.pickFh rfl rfl gdQ rfl) ?_ | refine WL.yld rfl (Yld.pickB rfl rfl rfl rfl) ?_)
    | ((with_reducible refine WL.isN_call ?_); first | refine WL.yld rfl (Yld.lenB rfl rfl rfl) ?_ | refine WL.yld rfl (Yld.lenSlice rfl rfl rfl) ?_ | refine WL.yld rfl (Yld.lenStr rfl rfl rfl) ?_)
    | ((with_reducible refine WL.isT ?_); first | refine WL.skipT rfl rfl rfl rfl gdQ ?_ | refine WL.skipU rfl rfl rfl rfl ?_ | refine WL.runT rfl rfl rfl gdQ ?_)
    | ((with_reducible refine WL.isF ?_); first | refine WL.skipF rfl rfl rfl rfl gdQ ?_ | refine WL.skipU rfl rfl rfl rfl ?_ | refine WL.runF rfl rfl rfl gdQ ?_)
    | ((with_reducible refine WL.isN_box ?_); first | refine WL.step rfl (StepTo.boxA rfl rfl rfl rfl (fun _ => ?_)) | refine WL.step rfl (StepTo.box1 rfl rfl rfl rfl rfl (fun _ => ?_)))
    | with_reducible refine WC.block ?_
    | with_reducible refine WC.scope ?_
    | with_reducible refine WC.label ?_
    | with_reducible refine WQ.ngN ?_
    | with_reducible refine WQ.ngR ?_
    | with_reducible refine WQ.ngX ?_
    | with_reducible refine WC.skip ?_
    | with_reducible refine WC.ret ?_
    | with_reducible refine WC.exit ?_
    | with_reducible refine WQ.thenR ?_
    | with_reducible refine WQ.thenX ?_
    | with_reducible refine WQ.blkN ?_
    | with_reducible refine WQ.blkR ?_
    | ((with_reducible refine WQ.blkX ?_ ?_); focus rfl)
    | ((with_reducible refine WQ.blkY ?_ ?_); focus rfl)
    | refine WC.condT rfl ?_
    | refine WC.condF rfl ?_
    | refine WC.condTh rfl gdQ ?_
    | refine WC.condFh rfl gdQ ?_
    | (refine WC.cond rfl (fun hc => ?_) (fun hc => ?_) <;> (try first | (with_reducible replace hc := of_decide_eq_true hc) | (with_reducible replace hc := of_decide_eq_false hc) | (with_reducible replace hc := eqT hc) | (with_reducible replace hc := eqF hc) | (with_reducible replace hc := neT hc) | (with_reducible replace hc := neF hc) | (with_reducible replace hc := noT hc) | (with_reducible replace hc := noF hc)) <;> (try (exfalso; omega))))
  exact WQ.body (Reads.tmp rfl rfl) fun w' hw' => ⟨by rw [h32], hw'.ext.below⟩
end Go.Proofs.Ytgknadnfckgdbaa
