/- The bytes and the cookie of a state, of the document. -/
import Derived.Test.YtheilikelcgdmaaCkB
namespace Go.Proofs.Ytheilikelcgdmaa
open Go.RowKit Go.IntWalk
set_option linter.unusedVariables false
set_option linter.unusedSectionVars false
set_option maxRecDepth 100000

theorem num_e (x k : Nat) (hx : x < 9223372036854775808) (hk0 : 0 < k) (hk : k ≤ 8) : ∃ N : List UInt8, Ck.num x k = N ∧ N.length = k ∧ ∀ w, Calls Try.prog 41 #[.int .i64 x, .int .i64 k] w
    fun e w' => e = .returned (.string (bs N)) ∧ Below w.heap.size w w' := ⟨_, rfl, Ck.num_len _ _, fun w => number_q x k hx hk0 hk w⟩
set_option maxHeartbeats 4000000 in
theorem rbytes_q (s : Ck.St) (hs : s.Ok) (hr : Ck.right s = true) (hp : s.peer.length ≤ 1000000) (w : World) : Calls Try.prog 29 #[.agg s.cs.toArray] w
    fun e w' => e = .returned (.string (bs (Ck.bytes s))) ∧ Below w.heap.size w w' := by
  obtain ⟨hpl, ⟨hm0, hm1, hl0, hl1⟩, _⟩ := Ck.right_iff.1 hr
  obtain ⟨h1, h2, h3, h4, h5, h6, h7, h8, h9, h10, h11⟩ := hs
  obtain ⟨ot, pt, os, ps, to_, tp, wi, ou, ins, op, pp, peer, made, life⟩ := s
  simp only at h1 h2 h3 h4 h5 h6 h7 h8 h9 h10 h11 hm0 hm1 hl0 hl1 hpl hp
  obtain ⟨m, rfl⟩ := Int.eq_ofNat_of_zero_le hm0
  obtain ⟨l, rfl⟩ := Int.eq_ofNat_of_zero_le hl0
  clear hr
  obtain ⟨N0, e0, l0, q0⟩ := num_e ot 4 (by omega) (by omega) (by omega)
  obtain ⟨N1, e1, l1, q1⟩ := num_e pt 4 (by omega) (by omega) (by omega)
  obtain ⟨N2, e2, l2, q2⟩ := num_e os 4 (by omega) (by omega) (by omega)
  obtain ⟨N3, e3, l3, q3⟩ := num_e ps 4 (by omega) (by omega) (by omega)
  obtain ⟨N4, e4, l4, q4⟩ := num_e to_ 4 (by omega) (by omega) (by omega)
  obtain ⟨N5, e5, l5, q5⟩ := num_e tp 4 (by omega) (by omega) (by omega)
  obtain ⟨N6, e6, l6, q6⟩ := num_e wi 4 (by omega) (by omega) (by omega)
  obtain ⟨N7, e7, l7, q7⟩ := num_e ou 2 (by omega) (by omega) (by omega)
  obtain ⟨N8, e8, l8, q8⟩ := num_e ins 2 (by omega) (by omega) (by omega)
  obtain ⟨N9, e9, l9, q9⟩ := num_e op 2 (by omega) (by omega) (by omega)
  obtain ⟨N10, e10, l10, q10⟩ := num_e pp 2 (by omega) (by omega) (by omega)
  obtain ⟨N11, e11, l11, q11⟩ := num_e m 8 (by omega) (by omega) (by omega)
  obtain ⟨N12, e12, l12, q12⟩ := num_e l 8 (by omega) (by omega) (by omega)
  obtain ⟨N13, e13, l13, q13⟩ := num_e peer.length 1 (by omega) (by omega) (by omega)
  have hb : (((((((((((((N0 ++ N1) ++ N2) ++ N3) ++ N4) ++ N5) ++ N6) ++ N7) ++ N8) ++ N9) ++ N10) ++ N11) ++ N12) ++ N13) ++ peer = Ck.bytes ⟨ot, pt, os, ps, to_, tp, wi, ou, ins, op, pp, peer, m, l⟩ := by
    rw [← e0, ← e1, ← e2, ← e3, ← e4, ← e5, ← e6, ← e7, ← e8, ← e9, ← e10, ← e11, ← e12, ← e13]
    simp only [Ck.bytes, Ck.head, List.append_assoc]
    rfl
  rw [← hb]
  clear hb e0 e1 e2 e3 e4 e5 e6 e7 e8 e9 e10 e11 e12 e13
  simp only [Ck.St.cs]
  refine enterW (fun _ => False) _ Try.func29 rfl (by simp only [Try.ntmps29, List.length_cons, List.length_nil, Nat.reduceAdd, Nat.reduceSub]; rfl) ?_
  repeat' (first
    | refine goS ?_
    | ((with_reducible refine WL.isN_bin ?_); first | refine WL.yld rfl (Yld.concatS rfl rfl rfl (by (try simp only [List.length_append]); omega)) ?_ | refine WL.yld rfl binQ ?_)
    | ((with_reducible refine WK.isN_bin ?_); first | refine WK.yld rfl (Yld.concatS rfl rfl rfl (by (try simp only [List.length_append]); omega)) ?_ | refine WK.yld rfl binQ ?_)
    | ((with_reducible refine WL.isN_load ?_); first | refine WL.yld rfl loadQ ?_)
    | ((with_reducible refine WK.isN_load ?_); first | refine WK.yld rfl loadQ ?_)
    | ((with_reducible refine WL.isN_conv ?_); first | refine WL.yld rfl convQ ?_)
    | ((with_reducible refine WK.isN_conv ?_); first | refine WK.yld rfl convQ ?_)
    | ((with_reducible refine WL.isN_call ?_); first | refine WK.yld rfl (Yld.lenB rfl rfl rfl) ?_ | refine WK.step rfl (Qui.call (v := .string (bs N0)) (us := [.int .i64 ot, .int .i64 4]) rfl rfl rfl (by kernel_rfl) (fun w _ => q0 w)) ?_ | refine WK.step rfl (Qui.call (v := .string (bs N1)) (us := [.int .i64 pt, .int .i64 4]) rfl rfl rfl (by kernel_rfl) (fun w _ => q1 w)) ?_ | refine WK.step rfl (Qui.call (v := .string (bs N2)) (us := [.int .i64 os, .int .i64 4]) rfl rfl rfl (by kernel_rfl) (fun w _ => q2 w)) ?_ | refine WK.step rfl (Qui.call (v := .string (bs N3)) (us := [.int .i64 ps, .int .i64 4]) rfl rfl rfl (by kernel_rfl) (fun w _ => q3 w)) ?_ | refine WK.step rfl (Qui.call (v := .string (bs N4)) (us := [.int .i64 to_, .int .i64 4]) rfl rfl rfl (by kernel_rfl) (fun w _ => q4 w)) ?_ | refine WK.step rfl (Qui.call (v := .string (bs N5)) (us := [.int .i64 tp, .int .i64 4]) rfl rfl rfl (by kernel_rfl) (fun w _ => q5 w)) ?_ | refine WK.step rfl (Qui.call (v := .string (bs N6)) (us := [.int .i64 wi, .int .i64 4]) rfl rfl rfl (by kernel_rfl) (fun w _ => q6 w)) ?_ | refine WK.step rfl (Qui.call (v := .string (bs N7)) (us := [.int .i64 ou, .int .i64 2]) rfl rfl rfl (by kernel_rfl) (fun w _ => q7 w)) ?_ | refine WK.step rfl (Qui.call (v := .string (bs N8)) (us := [.int .i64 ins, .int .i64 2]) rfl rfl rfl (by kernel_rfl) (fun w _ => q8 w)) ?_ | refine WK.step rfl (Qui.call (v := .string (bs N9)) (us := [.int .i64 op, .int .i64 2]) rfl rfl rfl (by kernel_rfl) (fun w _ => q9 w)) ?_ | refine WK.step rfl (Qui.call (v := .string (bs N10)) (us := [.int .i64 pp, .int .i64 2]) rfl rfl rfl (by kernel_rfl) (fun w _ => q10 w)) ?_ | refine WK.step rfl (Qui.call (v := .string (bs N11)) (us := [.int .i64 m, .int .i64 8]) rfl rfl rfl (by kernel_rfl) (fun w _ => q11 w)) ?_ | refine WK.step rfl (Qui.call (v := .string (bs N12)) (us := [.int .i64 l, .int .i64 8]) rfl rfl rfl (by kernel_rfl) (fun w _ => q12 w)) ?_ | refine WK.step rfl (Qui.call (v := .string (bs N13)) (us := [.int .i64 (peer.length : Nat), .int .i64 1]) rfl rfl rfl (by kernel_rfl) (fun w _ => q13 w)) ?_ | refine WL.yld rfl lenQ ?_)
    | ((with_reducible refine WK.isN_call ?_); first | refine WK.yld rfl (Yld.lenB rfl rfl rfl) ?_ | refine WK.step rfl (Qui.call (v := .string (bs N0)) (us := [.int .i64 ot, .int .i64 4]) rfl rfl rfl (by kernel_rfl) (fun w _ => q0 w)) ?_ | refine WK.step rfl (Qui.call (v := .string (bs N1)) (us := [.int .i64 pt, .int .i64 4]) rfl rfl rfl (by kernel_rfl) (fun w _ => q1 w)) ?_ | refine WK.step rfl (Qui.call (v := .string (bs N2)) (us := [.int .i64 os, .int .i64 4]) rfl rfl rfl (by kernel_rfl) (fun w _ => q2 w)) ?_ | refine WK.step rfl (Qui.call (v := .string (bs N3)) (us := [.int .i64 ps, .int .i64 4]) rfl rfl rfl (by kernel_rfl) (fun w _ => q3 w)) ?_ | refine WK.step rfl (Qui.call (v := .string (bs N4)) (us := [.int .i64 to_, .int .i64 4]) rfl rfl rfl (by kernel_rfl) (fun w _ => q4 w)) ?_ | refine WK.step rfl (Qui.call (v := .string (bs N5)) (us := [.int .i64 tp, .int .i64 4]) rfl rfl rfl (by kernel_rfl) (fun w _ => q5 w)) ?_ | refine WK.step rfl (Qui.call (v := .string (bs N6)) (us := [.int .i64 wi, .int .i64 4]) rfl rfl rfl (by kernel_rfl) (fun w _ => q6 w)) ?_ | refine WK.step rfl (Qui.call (v := .string (bs N7)) (us := [.int .i64 ou, .int .i64 2]) rfl rfl rfl (by kernel_rfl) (fun w _ => q7 w)) ?_ | refine WK.step rfl (Qui.call (v := .string (bs N8)) (us := [.int .i64 ins, .int .i64 2]) rfl rfl rfl (by kernel_rfl) (fun w _ => q8 w)) ?_ | refine WK.step rfl (Qui.call (v := .string (bs N9)) (us := [.int .i64 op, .int .i64 2]) rfl rfl rfl (by kernel_rfl) (fun w _ => q9 w)) ?_ | refine WK.step rfl (Qui.call (v := .string (bs N10)) (us := [.int .i64 pp, .int .i64 2]) rfl rfl rfl (by kernel_rfl) (fun w _ => q10 w)) ?_ | refine WK.step rfl (Qui.call (v := .string (bs N11)) (us := [.int .i64 m, .int .i64 8]) rfl rfl rfl (by kernel_rfl) (fun w _ => q11 w)) ?_ | refine WK.step rfl (Qui.call (v := .string (bs N12)) (us := [.int .i64 l, .int .i64 8]) rfl rfl rfl (by kernel_rfl) (fun w _ => q12 w)) ?_ | refine WK.step rfl (Qui.call (v := .string (bs N13)) (us := [.int .i64 (peer.length : Nat), .int .i64 1]) rfl rfl rfl (by kernel_rfl) (fun w _ => q13 w)) ?_ | refine WK.yld rfl lenQ ?_)
    | ((with_reducible refine WL.isN_box ?_); first | refine WL.step rfl (StepTo.boxA rfl rfl rfl rfl (fun _ => ?_)) | refine WL.step rfl (StepTo.box1 rfl rfl rfl rfl rfl (fun _ => ?_)))
    | with_reducible refine WC.block ?_
    | (refine WC.quiet (i := 1) (by kernel_rfl) (by kernel_rfl) ?_)
    | (refine WC.quiet (i := 2) (by kernel_rfl) (by kernel_rfl) ?_)
    | (refine WC.quiet (i := 3) (by kernel_rfl) (by kernel_rfl) ?_)
    | (refine WC.cond rfl (fun hc => ?_) (fun hc => ?_) <;> (try first | (with_reducible replace hc := of_decide_eq_true hc) | (with_reducible replace hc := of_decide_eq_false hc) | (with_reducible replace hc := eqT hc) | (with_reducible replace hc := eqF hc) | (with_reducible replace hc := neT hc) | (with_reducible replace hc := neF hc) | (with_reducible replace hc := noT hc) | (with_reducible replace hc := noF hc)) <;> (try (exfalso; omega))))

  exact WQ.body (Reads.tmp rfl rfl) fun w' hw' => ⟨rfl, hw'.ext.below⟩
theorem rbuild_q (key : List UInt8) (hkey : key.length ≤ 1000000) (s : Ck.St) (hs : s.Ok) (hp : s.peer.length ≤ 1000000) (w : World) : Calls Try.prog 12 #[.string (bs key), .agg s.cs.toArray] w
    fun e w' => e = .returned (.tuple #[.string (bs (Ck.build key s).1), .int .i64 (Ck.build key s).2]) ∧ Below w.heap.size w w' := by
  have hrq := fun w => ckrright_q s hs hp w
  cases hr : Ck.right s with
  | false =>
    have hb : Ck.build key s = ([], 1) := by rw [Ck.build, hr]; rfl
    rw [hb]
    rw [hr] at hrq
    refine enterW (fun _ => False) _ Try.func12 rfl (by simp only [Try.ntmps12, List.length_cons, List.length_nil, Nat.reduceAdd, Nat.reduceSub]; rfl) ?_
    repeat' (first
    | refine goS ?_
    | ((with_reducible refine WL.isN_bin ?_); first | refine WL.yld rfl binQ ?_)
    | ((with_reducible refine WL.isN_load ?_); first | refine WL.yld rfl loadQ ?_)
    | ((with_reducible refine WL.isN_call ?_); first | refine WL.step rfl (StepTo.callV (v := .bool false) (us := [.agg s.cs.toArray]) rfl rfl rfl rfl rfl (by kernel_rfl) (fun w hw => hrq w) ?_))
    | ((with_reducible refine WL.isN_box ?_); first | refine WL.step rfl (StepTo.boxA rfl rfl rfl rfl (fun _ => ?_)) | refine WL.step rfl (StepTo.box1 rfl rfl rfl rfl rfl (fun _ => ?_)))
    | with_reducible refine WC.block ?_
    | (refine WC.cond rfl (fun hc => ?_) (fun hc => ?_) <;> (try first | (with_reducible replace hc := of_decide_eq_true hc) | (with_reducible replace hc := of_decide_eq_false hc) | (with_reducible replace hc := eqT hc) | (with_reducible replace hc := eqF hc) | (with_reducible replace hc := neT hc) | (with_reducible replace hc := neF hc) | (with_reducible replace hc := noT hc) | (with_reducible replace hc := noF hc)) <;> (try (exfalso; omega))))
    exact WQ.body (Reads.tmp2 rfl rfl rfl) fun w' hw' => ⟨rfl, hw'.ext.below⟩
  | true =>
    have hb : Ck.build key s = (Hm.sum key (Ck.bytes s) ++ Ck.bytes s, 0) := by rw [Ck.build, if_pos hr]
    rw [hb]
    rw [hr] at hrq
    have hbl := Ck.bytes_len s
    have hbq := fun w => rbytes_q s hs hr hp w
    have hsum := fun w => rhm_q key (Ck.bytes s) (by omega) (by omega) w
    have hsl := Hm.sum_len key (Ck.bytes s)
    generalize Hm.sum key (Ck.bytes s) = Z at *
    generalize Ck.bytes s = B at *
    refine enterW (fun _ => False) _ Try.func12 rfl (by simp only [Try.ntmps12, List.length_cons, List.length_nil, Nat.reduceAdd, Nat.reduceSub]; rfl) ?_
    repeat' (first
    | refine goS ?_
    | ((with_reducible refine WL.isN_bin ?_); first | refine WL.yld rfl (Yld.concatS rfl rfl rfl (by omega)) ?_ | refine WL.yld rfl binQ ?_)
    | ((with_reducible refine WL.isN_load ?_); first | refine WL.yld rfl loadQ ?_)
    | ((with_reducible refine WL.isN_call ?_); first | refine WL.step rfl (StepTo.callV (v := .bool true) (us := [.agg s.cs.toArray]) rfl rfl rfl rfl rfl (by kernel_rfl) (fun w hw => hrq w) ?_) | refine WL.step rfl (StepTo.callV (v := .string (bs B)) (us := [.agg s.cs.toArray]) rfl rfl rfl rfl rfl (by kernel_rfl) (fun w hw => hbq w) ?_) | refine WL.step rfl (StepTo.callV (v := .string (bs Z)) (us := [.string (bs key), .string (bs B)]) rfl rfl rfl rfl rfl (by kernel_rfl) (fun w hw => hsum w) ?_))
    | ((with_reducible refine WL.isN_box ?_); first | refine WL.step rfl (StepTo.boxA rfl rfl rfl rfl (fun _ => ?_)) | refine WL.step rfl (StepTo.box1 rfl rfl rfl rfl rfl (fun _ => ?_)))
    | with_reducible refine WC.block ?_
    | (refine WC.cond rfl (fun hc => ?_) (fun hc => ?_) <;> (try first | (with_reducible replace hc := of_decide_eq_true hc) | (with_reducible replace hc := of_decide_eq_false hc) | (with_reducible replace hc := eqT hc) | (with_reducible replace hc := eqF hc) | (with_reducible replace hc := neT hc) | (with_reducible replace hc := neF hc) | (with_reducible replace hc := noT hc) | (with_reducible replace hc := noF hc)) <;> (try (exfalso; omega))))
    exact WQ.body (Reads.tmp2 rfl rfl rfl) fun w' hw' => ⟨rfl, hw'.ext.below⟩
end Go.Proofs.Ytheilikelcgdmaa
