/- The laws CookieBack and CookieParts. -/
import Derived.Test.YtheilikelcgdmaaCkL
namespace Go.Proofs.Ytheilikelcgdmaa
open Go.RowKit Go.IntWalk
set_option linter.unusedVariables false
set_option linter.unusedSectionVars false
set_option maxRecDepth 100000

set_option maxHeartbeats 4000000 in
theorem cookieBack_walk (k0 : ByteArray) (s : Ck.St) (w : World) (h0 : k0.size ≤ maxLen) (h1 : s.Ok ∧ s.peer.length ≤ maxLen ∧ (-9223372036854775808 ≤ s.made ∧ s.made ≤ 9223372036854775807) ∧ (-9223372036854775808 ≤ s.life ∧ s.life ≤ 9223372036854775807)) :
    Calls Try.prog 4 #[.string k0, .agg s.cs.toArray] w fun e w' => e = .returned (.bool true) ∧ Below w.heap.size w w' := by
  obtain ⟨k, rfl⟩ : ∃ s, k0 = bs s := ⟨_, (bs_eta k0).symm⟩
  clear h0
  obtain ⟨hs, hp, _, _⟩ := h1
  have sq := fun w => short_q s hp w
  by_cases g0 : s.peer.length ≤ 300
  case neg =>
    rw [decide_eq_false g0] at sq
    refine enterW (fun _ => False) _ Try.func4 rfl (by simp only [Try.ntmps4, List.length_cons, List.length_nil, Nat.reduceAdd, Nat.reduceSub]; rfl) ?_
    repeat' (first
    | refine goS ?_
    | ((with_reducible refine WL.isN_bin ?_); first | refine WL.yld rfl binQ ?_)
    | ((with_reducible refine WL.isN_load ?_); first | refine WL.yld rfl loadQ ?_)
    | ((with_reducible refine WL.isN_call ?_); first | refine WL.step rfl (StepTo.callV (v := .bool true) (us := []) rfl rfl rfl rfl rfl (by kernel_rfl) (fun w hw => ckshown_q w) ?_) | refine WL.step rfl (StepTo.callV (v := .bool false) (us := [.agg s.cs.toArray]) rfl rfl rfl rfl rfl (by kernel_rfl) (fun w hw => sq w) ?_) | refine WL.yld rfl (Yld.lenB rfl rfl rfl) ?_ | refine WL.yld rfl lenQ ?_)
    | ((with_reducible refine WL.isN_box ?_); first | refine WL.step rfl (StepTo.boxA rfl rfl rfl rfl (fun _ => ?_)) | refine WL.step rfl (StepTo.box1 rfl rfl rfl rfl rfl (fun _ => ?_)))
    | ((with_reducible refine WL.isN_alloc ?_); first | refine WL.step rfl (StepTo.allocA rfl rfl rfl rfl (fun _ => ?_)) | refine WL.step rfl (StepTo.alloc1 rfl rfl rfl rfl rfl (fun _ => ?_)))
    | ((with_reducible refine WL.isN_store ?_); first | refine WL.step rfl (StepTo.st1 rfl rfl rfl rfl rfl rfl ?_) | refine WL.step rfl (StepTo.stA rfl rfl rfl rfl rfl rfl rfl ?_) | refine WL.step rfl (StepTo.stR rfl rfl rfl rfl rfl rfl rfl ?_))
    | with_reducible refine WC.block ?_
    | (refine WC.cond rfl (fun hc => ?_) (fun hc => ?_) <;> (try first | (with_reducible replace hc := of_decide_eq_true hc) | (with_reducible replace hc := of_decide_eq_false hc) | (with_reducible replace hc := eqT hc) | (with_reducible replace hc := eqF hc) | (with_reducible replace hc := neT hc) | (with_reducible replace hc := neF hc) | (with_reducible replace hc := noT hc) | (with_reducible replace hc := noF hc)) <;> (try (exfalso; omega))))
    exact WQ.body (Reads.tmp rfl rfl) fun w' hw' => ⟨rfl, hw'.ext.below⟩
  rw [decide_eq_true g0] at sq
  by_cases g1 : k.length ≤ 300
  case neg =>
    refine enterW (fun _ => False) _ Try.func4 rfl (by simp only [Try.ntmps4, List.length_cons, List.length_nil, Nat.reduceAdd, Nat.reduceSub]; rfl) ?_
    repeat' (first
    | refine goS ?_
    | ((with_reducible refine WL.isN_bin ?_); first | refine WL.yld rfl binQ ?_)
    | ((with_reducible refine WL.isN_load ?_); first | refine WL.yld rfl loadQ ?_)
    | ((with_reducible refine WL.isN_call ?_); first | refine WL.step rfl (StepTo.callV (v := .bool true) (us := []) rfl rfl rfl rfl rfl (by kernel_rfl) (fun w hw => ckshown_q w) ?_) | refine WL.step rfl (StepTo.callV (v := .bool true) (us := [.agg s.cs.toArray]) rfl rfl rfl rfl rfl (by kernel_rfl) (fun w hw => sq w) ?_) | refine WL.yld rfl (Yld.lenB rfl rfl rfl) ?_ | refine WL.yld rfl lenQ ?_)
    | ((with_reducible refine WL.isN_box ?_); first | refine WL.step rfl (StepTo.boxA rfl rfl rfl rfl (fun _ => ?_)) | refine WL.step rfl (StepTo.box1 rfl rfl rfl rfl rfl (fun _ => ?_)))
    | ((with_reducible refine WL.isN_alloc ?_); first | refine WL.step rfl (StepTo.allocA rfl rfl rfl rfl (fun _ => ?_)) | refine WL.step rfl (StepTo.alloc1 rfl rfl rfl rfl rfl (fun _ => ?_)))
    | ((with_reducible refine WL.isN_store ?_); first | refine WL.step rfl (StepTo.st1 rfl rfl rfl rfl rfl rfl ?_) | refine WL.step rfl (StepTo.stA rfl rfl rfl rfl rfl rfl rfl ?_) | refine WL.step rfl (StepTo.stR rfl rfl rfl rfl rfl rfl rfl ?_))
    | with_reducible refine WC.block ?_
    | (refine WC.cond rfl (fun hc => ?_) (fun hc => ?_) <;> (try first | (with_reducible replace hc := of_decide_eq_true hc) | (with_reducible replace hc := of_decide_eq_false hc) | (with_reducible replace hc := eqT hc) | (with_reducible replace hc := eqF hc) | (with_reducible replace hc := neT hc) | (with_reducible replace hc := neF hc) | (with_reducible replace hc := noT hc) | (with_reducible replace hc := noF hc)) <;> (try (exfalso; omega))))
    exact WQ.body (Reads.tmp rfl rfl) fun w' hw' => ⟨rfl, hw'.ext.below⟩
  have q1 := fun w => build_q k (by omega) s hs (by omega) w
  have q8 := fun w => ckright_q s hs (by omega) w
  cases hr : Ck.right s with
  | false =>
    rw [hr] at q8
    rw [Ck.build_no hr] at q1
    simp only at q1
    refine enterW (fun _ => False) _ Try.func4 rfl (by simp only [Try.ntmps4, List.length_cons, List.length_nil, Nat.reduceAdd, Nat.reduceSub]; rfl) ?_
    repeat' (first
    | refine goS ?_
    | ((with_reducible refine WL.isN_bin ?_); first | refine WL.yld rfl ((Yld.eqS (s := []) (t := []) rfl rfl rfl).as eqS_self) ?_ | refine WL.yld rfl binQ ?_)
    | ((with_reducible refine WL.isN_load ?_); first | refine WL.yld rfl loadQ ?_)
    | ((with_reducible refine WL.isN_call ?_); first | refine WL.step rfl (StepTo.callV (v := .bool true) (us := []) rfl rfl rfl rfl rfl (by kernel_rfl) (fun w hw => ckshown_q w) ?_) | refine WL.step rfl (StepTo.callV (v := .bool true) (us := [.agg s.cs.toArray]) rfl rfl rfl rfl rfl (by kernel_rfl) (fun w hw => sq w) ?_) | refine WL.yld rfl (Yld.lenB rfl rfl rfl) ?_ | refine WL.step rfl (StepTo.callV (v := .tuple #[.string (bs []), .int .i64 1]) (us := [.string (bs k), .agg s.cs.toArray]) rfl rfl rfl rfl rfl (by kernel_rfl) (fun w hw => q1 w) ?_) | refine WL.step rfl (StepTo.callV (v := .bool false) (us := [.agg s.cs.toArray]) rfl rfl rfl rfl rfl (by kernel_rfl) (fun w hw => q8 w) ?_) | refine WL.yld rfl lenQ ?_)
    | ((with_reducible refine WL.isN_box ?_); first | refine WL.step rfl (StepTo.boxA rfl rfl rfl rfl (fun _ => ?_)) | refine WL.step rfl (StepTo.box1 rfl rfl rfl rfl rfl (fun _ => ?_)))
    | ((with_reducible refine WL.isN_alloc ?_); first | refine WL.step rfl (StepTo.allocA rfl rfl rfl rfl (fun _ => ?_)) | refine WL.step rfl (StepTo.alloc1 rfl rfl rfl rfl rfl (fun _ => ?_)))
    | ((with_reducible refine WL.isN_store ?_); first | refine WL.step rfl (StepTo.st1 rfl rfl rfl rfl rfl rfl ?_) | refine WL.step rfl (StepTo.stA rfl rfl rfl rfl rfl rfl rfl ?_) | refine WL.step rfl (StepTo.stR rfl rfl rfl rfl rfl rfl rfl ?_))
    | with_reducible refine WC.block ?_
    | (refine WC.cond rfl (fun hc => ?_) (fun hc => ?_) <;> (try first | (with_reducible replace hc := of_decide_eq_true hc) | (with_reducible replace hc := of_decide_eq_false hc) | (with_reducible replace hc := eqT hc) | (with_reducible replace hc := eqF hc) | (with_reducible replace hc := neT hc) | (with_reducible replace hc := neF hc) | (with_reducible replace hc := noT hc) | (with_reducible replace hc := noF hc)) <;> (try (exfalso; omega))))
    exact WQ.body (Reads.tmp rfl rfl) fun w' hw' => ⟨rfl, hw'.ext.below⟩
  | true =>
    rw [Ck.build_yes hr] at q1
    have hrb := Ck.read_build (k := k) hs hr
    have hl : (Hm.sum k (Ck.bytes s) ++ Ck.bytes s).length = 85 + s.peer.length := by
      rw [List.length_append, Hm.sum_len, Ck.bytes_len]; omega
    generalize Hm.sum k (Ck.bytes s) ++ Ck.bytes s = c at *
    have q3 := fun w => read_q k c (by omega) (by omega) w
    rw [hrb] at q3
    have q4 := fun w => read_q k (c.take 31) (by omega) (by rw [List.length_take]; omega) w
    rw [Ck.read_less (by rw [List.length_take]; omega)] at q4
    simp only at q1 q3 q4
    refine enterW (fun _ => False) _ Try.func4 rfl (by simp only [Try.ntmps4, List.length_cons, List.length_nil, Nat.reduceAdd, Nat.reduceSub]; rfl) ?_
    repeat' (first
    | refine goS ?_
    | ((with_reducible refine WL.isN_bin ?_); first | refine WL.yld rfl (Yld.eqlSame 4 rfl rfl rfl (by kernel_rfl) (by kernel_rfl) rfl rfl (by simp)) ?_ | refine WL.yld rfl binQ ?_)
    | ((with_reducible refine WL.isN_load ?_); first | refine WL.yld rfl loadQ ?_)
    | ((with_reducible refine WL.isN_call ?_); first | refine WL.step rfl (StepTo.callV (v := .bool true) (us := []) rfl rfl rfl rfl rfl (by kernel_rfl) (fun w hw => ckshown_q w) ?_) | refine WL.step rfl (StepTo.callV (v := .bool true) (us := [.agg s.cs.toArray]) rfl rfl rfl rfl rfl (by kernel_rfl) (fun w hw => sq w) ?_) | refine WL.yld rfl (Yld.lenB rfl rfl rfl) ?_ | refine WL.step rfl (StepTo.callV (v := .tuple #[.string (bs c), .int .i64 0]) (us := [.string (bs k), .agg s.cs.toArray]) rfl rfl rfl rfl rfl (by kernel_rfl) (fun w hw => q1 w) ?_) | refine WL.step rfl (StepTo.callV (v := .tuple #[.agg s.cs.toArray, .int .i64 0]) (us := [.string (bs k), .string (bs c)]) rfl rfl rfl rfl rfl (by kernel_rfl) (fun w hw => q3 w) ?_) | refine WL.step rfl (StepTo.callV (v := .tuple #[.agg Ck.St.zero.cs.toArray, .int .i64 3]) (us := [.string (bs k), .string (bs (c.take 31))]) rfl rfl rfl rfl rfl (by kernel_rfl) (fun w hw => q4 w) ?_) | refine WL.yld rfl lenQ ?_)
    | ((with_reducible refine WL.isN_box ?_); first | refine WL.step rfl (StepTo.boxA rfl rfl rfl rfl (fun _ => ?_)) | refine WL.step rfl (StepTo.box1 rfl rfl rfl rfl rfl (fun _ => ?_)))
    | ((with_reducible refine WL.isN_alloc ?_); first | refine WL.step rfl (StepTo.allocA rfl rfl rfl rfl (fun _ => ?_)) | refine WL.step rfl (StepTo.alloc1 rfl rfl rfl rfl rfl (fun _ => ?_)))
    | ((with_reducible refine WL.isN_store ?_); first | refine WL.step rfl (StepTo.st1 rfl rfl rfl rfl rfl rfl ?_) | refine WL.step rfl (StepTo.stA rfl rfl rfl rfl rfl rfl rfl ?_) | refine WL.step rfl (StepTo.stR rfl rfl rfl rfl rfl rfl rfl ?_))
    | refine WL.yld rfl (Yld.cutHiS (hi := 31) rfl rfl rfl rfl rfl (by omega)) ?_
    | with_reducible refine WC.block ?_
    | (refine WC.cond rfl (fun hc => ?_) (fun hc => ?_) <;> (try first | (with_reducible replace hc := of_decide_eq_true hc) | (with_reducible replace hc := of_decide_eq_false hc) | (with_reducible replace hc := eqT hc) | (with_reducible replace hc := eqF hc) | (with_reducible replace hc := neT hc) | (with_reducible replace hc := neF hc) | (with_reducible replace hc := noT hc) | (with_reducible replace hc := noF hc)) <;> (try (exfalso; omega))))
    exact WQ.body (Reads.tmp rfl rfl) fun w' hw' => ⟨by rw [beqT (by omega)], hw'.ext.below⟩

namespace Ck
def parts (s : St) (a b : Nat) : List St := [{ s with ot := a }, { s with ps := a }, { s with tp := a }, { s with wi := a }, { s with ins := b }, { s with pp := b }]
theorem parts_ok {s : St} {a b : Nat} (hs : s.Ok) (hr : right s = true) (ha : a < 4294967296) (hb : b < 65536) (ha0 : a ≠ 0) (hb0 : b ≠ 0) : ∀ x ∈ parts s a b, x.Ok ∧ right x = true ∧ x.peer = s.peer := by
  obtain ⟨h1, h2, h3, h4, h5, h6, h7, h8, h9, h10, h11⟩ := hs
  obtain ⟨hp, hm, r1, r2, r3, r4, r5, r6⟩ := right_iff.1 hr
  intro x hx
  simp only [parts, List.mem_cons, List.not_mem_nil, or_false] at hx
  rcases hx with rfl | rfl | rfl | rfl | rfl | rfl
  · exact ⟨⟨ha, h2, h3, h4, h5, h6, h7, h8, h9, h10, h11⟩, right_iff.2 ⟨hp, hm, ha0, r2, r3, r4, r5, r6⟩, rfl⟩
  · exact ⟨⟨h1, h2, h3, ha, h5, h6, h7, h8, h9, h10, h11⟩, right_iff.2 ⟨hp, hm, r1, r2, r3, r4, r5, r6⟩, rfl⟩
  · exact ⟨⟨h1, h2, h3, h4, h5, ha, h7, h8, h9, h10, h11⟩, right_iff.2 ⟨hp, hm, r1, r2, r3, r4, r5, r6⟩, rfl⟩
  · exact ⟨⟨h1, h2, h3, h4, h5, h6, ha, h8, h9, h10, h11⟩, right_iff.2 ⟨hp, hm, r1, r2, r3, r4, r5, r6⟩, rfl⟩
  · exact ⟨⟨h1, h2, h3, h4, h5, h6, h7, h8, hb, h10, h11⟩, right_iff.2 ⟨hp, hm, r1, r2, r3, hb0, r5, r6⟩, rfl⟩
  · exact ⟨⟨h1, h2, h3, h4, h5, h6, h7, h8, h9, h10, hb⟩, right_iff.2 ⟨hp, hm, r1, r2, r3, r4, r5, hb0⟩, rfl⟩
theorem cs_len (s : St) : s.cs.length = 14 := rfl
end Ck
set_option maxHeartbeats 4000000 in
theorem cookieParts_walk (s : Ck.St) (a0 b0 : Int) (w : World) (h1 : s.Ok ∧ s.peer.length ≤ maxLen ∧ (-9223372036854775808 ≤ s.made ∧ s.made ≤ 9223372036854775807) ∧ (-9223372036854775808 ≤ s.life ∧ s.life ≤ 9223372036854775807)) (h2 : (Lit.int .u32 a0).wf = true) (h3 : (Lit.int .u16 b0).wf = true) :
    Calls Try.prog 5 #[.agg s.cs.toArray, .int .u32 a0, .int .u16 b0] w fun e w' => e = .returned (.bool true) ∧ Below w.heap.size w w' := by
  obtain ⟨a, rfl, ha⟩ := nat_wf (m := 4294967295) a0 h2 rfl rfl
  obtain ⟨b, rfl, hb⟩ := nat_wf (m := 65535) b0 h3 rfl rfl
  obtain ⟨hs, hp, _, _⟩ := h1
  have sq := fun w => short_q s hp w
  by_cases g0 : s.peer.length ≤ 300
  case neg =>
    rw [decide_eq_false g0] at sq
    refine enterW (fun _ => False) _ Try.func5 rfl (by simp only [Try.ntmps5, List.length_cons, List.length_nil, Nat.reduceAdd, Nat.reduceSub]; rfl) ?_
    repeat' (first
    | refine goS ?_
    | ((with_reducible refine WL.isN_bin ?_); first | refine WL.yld rfl binQ ?_)
    | ((with_reducible refine WL.isN_load ?_); first | refine WL.yld rfl loadQ ?_)
    | ((with_reducible refine WL.isN_iaddr ?_); first | refine WL.yld rfl iaddrQ ?_)
    | ((with_reducible refine WL.isN_call ?_); first | refine WL.step rfl (StepTo.callV (v := .bool true) (us := []) rfl rfl rfl rfl rfl (by kernel_rfl) (fun w hw => ckshown_q w) ?_) | refine WL.step rfl (StepTo.callV (v := .bool false) (us := [.agg s.cs.toArray]) rfl rfl rfl rfl rfl (by kernel_rfl) (fun w hw => sq w) ?_) | refine WL.yld rfl (Yld.lenB rfl rfl rfl) ?_ | refine WL.yld rfl lenQ ?_)
    | ((with_reducible refine WL.isN_box ?_); first | refine WL.step rfl (StepTo.boxA rfl rfl rfl rfl (fun _ => ?_)) | refine WL.step rfl (StepTo.box1 rfl rfl rfl rfl rfl (fun _ => ?_)))
    | ((with_reducible refine WL.isN_alloc ?_); first | refine WL.step rfl (StepTo.allocA rfl rfl rfl rfl (fun _ => ?_)) | refine WL.step rfl (StepTo.alloc1 rfl rfl rfl rfl rfl (fun _ => ?_)))
    | ((with_reducible refine WL.isN_store ?_); first | refine WL.step rfl (StepTo.st1 rfl rfl rfl rfl rfl rfl ?_) | refine WL.step rfl (StepTo.stA rfl rfl rfl rfl rfl rfl rfl ?_) | refine WL.step rfl (StepTo.stR rfl rfl rfl rfl rfl rfl rfl ?_))
    | ((with_reducible refine WL.isN_bslice ?_); first | refine WL.step rfl (StepTo.buildSlice rfl rfl rfl rfl rfl rfl rfl rfl rfl rfl cellsOfQ (fun _ => ?_)))
    | with_reducible refine WC.block ?_
    | (refine WC.cond rfl (fun hc => ?_) (fun hc => ?_) <;> (try first | (with_reducible replace hc := of_decide_eq_true hc) | (with_reducible replace hc := of_decide_eq_false hc) | (with_reducible replace hc := eqT hc) | (with_reducible replace hc := eqF hc) | (with_reducible replace hc := neT hc) | (with_reducible replace hc := neF hc) | (with_reducible replace hc := noT hc) | (with_reducible replace hc := noF hc)) <;> (try (exfalso; omega))))
    exact WQ.body (Reads.tmp rfl rfl) fun w' hw' => ⟨rfl, hw'.ext.below⟩
  rw [decide_eq_true g0] at sq
  have q8 := fun w => ckright_q s hs (by omega) w
  cases hr : Ck.right s with
  | false =>
    rw [hr] at q8
    refine enterW (fun _ => False) _ Try.func5 rfl (by simp only [Try.ntmps5, List.length_cons, List.length_nil, Nat.reduceAdd, Nat.reduceSub]; rfl) ?_
    repeat' (first
    | refine goS ?_
    | ((with_reducible refine WL.isN_bin ?_); first | refine WL.yld rfl binQ ?_)
    | ((with_reducible refine WL.isN_load ?_); first | refine WL.yld rfl loadQ ?_)
    | ((with_reducible refine WL.isN_iaddr ?_); first | refine WL.yld rfl iaddrQ ?_)
    | ((with_reducible refine WL.isN_call ?_); first | refine WL.step rfl (StepTo.callV (v := .bool true) (us := []) rfl rfl rfl rfl rfl (by kernel_rfl) (fun w hw => ckshown_q w) ?_) | refine WL.step rfl (StepTo.callV (v := .bool true) (us := [.agg s.cs.toArray]) rfl rfl rfl rfl rfl (by kernel_rfl) (fun w hw => sq w) ?_) | refine WL.yld rfl (Yld.lenB rfl rfl rfl) ?_ | refine WL.step rfl (StepTo.callV (v := .bool false) (us := [.agg s.cs.toArray]) rfl rfl rfl rfl rfl (by kernel_rfl) (fun w hw => q8 w) ?_) | refine WL.yld rfl lenQ ?_)
    | ((with_reducible refine WL.isN_box ?_); first | refine WL.step rfl (StepTo.boxA rfl rfl rfl rfl (fun _ => ?_)) | refine WL.step rfl (StepTo.box1 rfl rfl rfl rfl rfl (fun _ => ?_)))
    | ((with_reducible refine WL.isN_alloc ?_); first | refine WL.step rfl (StepTo.allocA rfl rfl rfl rfl (fun _ => ?_)) | refine WL.step rfl (StepTo.alloc1 rfl rfl rfl rfl rfl (fun _ => ?_)))
    | ((with_reducible refine WL.isN_store ?_); first | refine WL.step rfl (StepTo.st1 rfl rfl rfl rfl rfl rfl ?_) | refine WL.step rfl (StepTo.stA rfl rfl rfl rfl rfl rfl rfl ?_) | refine WL.step rfl (StepTo.stR rfl rfl rfl rfl rfl rfl rfl ?_))
    | ((with_reducible refine WL.isN_bslice ?_); first | refine WL.step rfl (StepTo.buildSlice rfl rfl rfl rfl rfl rfl rfl rfl rfl rfl cellsOfQ (fun _ => ?_)))
    | with_reducible refine WC.block ?_
    | (refine WC.cond rfl (fun hc => ?_) (fun hc => ?_) <;> (try first | (with_reducible replace hc := of_decide_eq_true hc) | (with_reducible replace hc := of_decide_eq_false hc) | (with_reducible replace hc := eqT hc) | (with_reducible replace hc := eqF hc) | (with_reducible replace hc := neT hc) | (with_reducible replace hc := neF hc) | (with_reducible replace hc := noT hc) | (with_reducible replace hc := noF hc)) <;> (try (exfalso; omega))))
    exact WQ.body (Reads.tmp rfl rfl) fun w' hw' => ⟨rfl, hw'.ext.below⟩
  | true =>
  rw [hr] at q8
  by_cases ha0 : a = 0
  case pos =>
    refine enterW (fun _ => False) _ Try.func5 rfl (by simp only [Try.ntmps5, List.length_cons, List.length_nil, Nat.reduceAdd, Nat.reduceSub]; rfl) ?_
    repeat' (first
    | refine goS ?_
    | ((with_reducible refine WL.isN_bin ?_); first | refine WL.yld rfl binQ ?_)
    | ((with_reducible refine WL.isN_load ?_); first | refine WL.yld rfl loadQ ?_)
    | ((with_reducible refine WL.isN_iaddr ?_); first | refine WL.yld rfl iaddrQ ?_)
    | ((with_reducible refine WL.isN_call ?_); first | refine WL.step rfl (StepTo.callV (v := .bool true) (us := []) rfl rfl rfl rfl rfl (by kernel_rfl) (fun w hw => ckshown_q w) ?_) | refine WL.step rfl (StepTo.callV (v := .bool true) (us := [.agg s.cs.toArray]) rfl rfl rfl rfl rfl (by kernel_rfl) (fun w hw => sq w) ?_) | refine WL.yld rfl (Yld.lenB rfl rfl rfl) ?_ | refine WL.step rfl (StepTo.callV (v := .bool true) (us := [.agg s.cs.toArray]) rfl rfl rfl rfl rfl (by kernel_rfl) (fun w hw => q8 w) ?_) | refine WL.yld rfl lenQ ?_)
    | ((with_reducible refine WL.isN_box ?_); first | refine WL.step rfl (StepTo.boxA rfl rfl rfl rfl (fun _ => ?_)) | refine WL.step rfl (StepTo.box1 rfl rfl rfl rfl rfl (fun _ => ?_)))
    | ((with_reducible refine WL.isN_alloc ?_); first | refine WL.step rfl (StepTo.allocA rfl rfl rfl rfl (fun _ => ?_)) | refine WL.step rfl (StepTo.alloc1 rfl rfl rfl rfl rfl (fun _ => ?_)))
    | ((with_reducible refine WL.isN_store ?_); first | refine WL.step rfl (StepTo.st1 rfl rfl rfl rfl rfl rfl ?_) | refine WL.step rfl (StepTo.stA rfl rfl rfl rfl rfl rfl rfl ?_) | refine WL.step rfl (StepTo.stR rfl rfl rfl rfl rfl rfl rfl ?_))
    | ((with_reducible refine WL.isN_bslice ?_); first | refine WL.step rfl (StepTo.buildSlice rfl rfl rfl rfl rfl rfl rfl rfl rfl rfl cellsOfQ (fun _ => ?_)))
    | with_reducible refine WC.block ?_
    | (refine WC.cond rfl (fun hc => ?_) (fun hc => ?_) <;> (try first | (with_reducible replace hc := of_decide_eq_true hc) | (with_reducible replace hc := of_decide_eq_false hc) | (with_reducible replace hc := eqT hc) | (with_reducible replace hc := eqF hc) | (with_reducible replace hc := neT hc) | (with_reducible replace hc := neF hc) | (with_reducible replace hc := noT hc) | (with_reducible replace hc := noF hc)) <;> (try (exfalso; omega))))
    exact WQ.body (Reads.tmp rfl rfl) fun w' hw' => ⟨rfl, hw'.ext.below⟩
  by_cases hb0 : b = 0
  case pos =>
    refine enterW (fun _ => False) _ Try.func5 rfl (by simp only [Try.ntmps5, List.length_cons, List.length_nil, Nat.reduceAdd, Nat.reduceSub]; rfl) ?_
    repeat' (first
    | refine goS ?_
    | ((with_reducible refine WL.isN_bin ?_); first | refine WL.yld rfl binQ ?_)
    | ((with_reducible refine WL.isN_load ?_); first | refine WL.yld rfl loadQ ?_)
    | ((with_reducible refine WL.isN_iaddr ?_); first | refine WL.yld rfl iaddrQ ?_)
    | ((with_reducible refine WL.isN_call ?_); first | refine WL.step rfl (StepTo.callV (v := .bool true) (us := []) rfl rfl rfl rfl rfl (by kernel_rfl) (fun w hw => ckshown_q w) ?_) | refine WL.step rfl (StepTo.callV (v := .bool true) (us := [.agg s.cs.toArray]) rfl rfl rfl rfl rfl (by kernel_rfl) (fun w hw => sq w) ?_) | refine WL.yld rfl (Yld.lenB rfl rfl rfl) ?_ | refine WL.step rfl (StepTo.callV (v := .bool true) (us := [.agg s.cs.toArray]) rfl rfl rfl rfl rfl (by kernel_rfl) (fun w hw => q8 w) ?_) | refine WL.yld rfl lenQ ?_)
    | ((with_reducible refine WL.isN_box ?_); first | refine WL.step rfl (StepTo.boxA rfl rfl rfl rfl (fun _ => ?_)) | refine WL.step rfl (StepTo.box1 rfl rfl rfl rfl rfl (fun _ => ?_)))
    | ((with_reducible refine WL.isN_alloc ?_); first | refine WL.step rfl (StepTo.allocA rfl rfl rfl rfl (fun _ => ?_)) | refine WL.step rfl (StepTo.alloc1 rfl rfl rfl rfl rfl (fun _ => ?_)))
    | ((with_reducible refine WL.isN_store ?_); first | refine WL.step rfl (StepTo.st1 rfl rfl rfl rfl rfl rfl ?_) | refine WL.step rfl (StepTo.stA rfl rfl rfl rfl rfl rfl rfl ?_) | refine WL.step rfl (StepTo.stR rfl rfl rfl rfl rfl rfl rfl ?_))
    | ((with_reducible refine WL.isN_bslice ?_); first | refine WL.step rfl (StepTo.buildSlice rfl rfl rfl rfl rfl rfl rfl rfl rfl rfl cellsOfQ (fun _ => ?_)))
    | with_reducible refine WC.block ?_
    | (refine WC.cond rfl (fun hc => ?_) (fun hc => ?_) <;> (try first | (with_reducible replace hc := of_decide_eq_true hc) | (with_reducible replace hc := of_decide_eq_false hc) | (with_reducible replace hc := eqT hc) | (with_reducible replace hc := eqF hc) | (with_reducible replace hc := neT hc) | (with_reducible replace hc := neF hc) | (with_reducible replace hc := noT hc) | (with_reducible replace hc := noF hc)) <;> (try (exfalso; omega))))
    exact WQ.body (Reads.tmp rfl rfl) fun w' hw' => ⟨rfl, hw'.ext.below⟩
  have hall := Ck.parts_ok hs hr (a := a) (b := b) (by omega) (by omega) ha0 hb0
  refine enterW (fun _ => False) _ Try.func5 rfl (by simp only [Try.ntmps5, List.length_cons, List.length_nil, Nat.reduceAdd, Nat.reduceSub]; rfl) ?_
  repeat' (first
    | refine goS ?_
    | ((with_reducible refine WL.isN_bin ?_); first | refine WL.yld rfl binQ ?_)
    | ((with_reducible refine WL.isN_load ?_); first | refine WL.yld rfl loadQ ?_)
    | ((with_reducible refine WL.isN_iaddr ?_); first | refine WL.yld rfl (Yld.indexS 0 rfl rfl rfl rfl rfl rfl (by omega)) ?_ | refine WL.yld rfl (Yld.indexS 1 rfl rfl rfl rfl rfl rfl (by omega)) ?_ | refine WL.yld rfl (Yld.indexS 2 rfl rfl rfl rfl rfl rfl (by omega)) ?_ | refine WL.yld rfl (Yld.indexS 3 rfl rfl rfl rfl rfl rfl (by omega)) ?_ | refine WL.yld rfl (Yld.indexS 4 rfl rfl rfl rfl rfl rfl (by omega)) ?_ | refine WL.yld rfl (Yld.indexS 5 rfl rfl rfl rfl rfl rfl (by omega)) ?_ | refine WL.yld rfl iaddrQ ?_)
    | ((with_reducible refine WL.isN_call ?_); first | refine WL.step rfl (StepTo.callV (v := .bool true) (us := []) rfl rfl rfl rfl rfl (by kernel_rfl) (fun w hw => ckshown_q w) ?_) | refine WL.step rfl (StepTo.callV (v := .bool true) (us := [.agg s.cs.toArray]) rfl rfl rfl rfl rfl (by kernel_rfl) (fun w hw => sq w) ?_) | refine WL.yld rfl (Yld.lenB rfl rfl rfl) ?_ | refine WL.step rfl (StepTo.callV (v := .bool true) (us := [.agg s.cs.toArray]) rfl rfl rfl rfl rfl (by kernel_rfl) (fun w hw => q8 w) ?_) | refine WL.yld rfl lenQ ?_)
    | ((with_reducible refine WL.isN_box ?_); first | refine WL.step rfl (StepTo.boxA rfl rfl rfl rfl (fun _ => ?_)) | refine WL.step rfl (StepTo.box1 rfl rfl rfl rfl rfl (fun _ => ?_)))
    | ((with_reducible refine WL.isN_alloc ?_); first | refine WL.step rfl (StepTo.allocA rfl rfl rfl rfl (fun _ => ?_)) | refine WL.step rfl (StepTo.alloc1 rfl rfl rfl rfl rfl (fun _ => ?_)))
    | ((with_reducible refine WL.isN_store ?_); first | refine WL.step rfl (StepTo.st1 rfl rfl rfl rfl rfl rfl ?_) | refine WL.step rfl (StepTo.stA rfl rfl rfl rfl rfl rfl rfl ?_) | refine WL.step rfl (StepTo.stR rfl rfl rfl rfl rfl rfl rfl ?_))
    | ((with_reducible refine WL.isN_bslice ?_); first | refine WL.step rfl (StepTo.buildSlice rfl rfl rfl rfl rfl rfl rfl rfl rfl rfl cellsOfQ (fun _ => ?_)))
    | with_reducible refine WC.block ?_
    | (refine WC.cond rfl (fun hc => ?_) (fun hc => ?_) <;> (try first | (with_reducible replace hc := of_decide_eq_true hc) | (with_reducible replace hc := of_decide_eq_false hc) | (with_reducible replace hc := eqT hc) | (with_reducible replace hc := eqF hc) | (with_reducible replace hc := neT hc) | (with_reducible replace hc := neF hc) | (with_reducible replace hc := noT hc) | (with_reducible replace hc := noF hc)) <;> (try (exfalso; omega))))
  rename_i bS bL
  refine WC.boxVw 0 6 14 rfl rfl (by omega) ?_
  obtain ⟨l, hl⟩ : ∃ l, l = Ck.parts s a b := ⟨_, rfl⟩
  have hll : l.length = 6 := by rw [hl]; rfl
  refine WC.sub (idx := [0]) (τ' := [(9, .slice (some ⟨bL, 0, none⟩) 6 6), (10, .int .i64 (0 : Nat))]) (H' := [.vw (some ⟨bL, 0, none⟩) 6 14 (flat Ck.St.cs (Ck.parts s a b))]) (by repeat (first | exact Sub.nil | refine Sub.cons rfl ?_ | refine Sub.consE rfl (int_eq (by omega)) ?_)) ⟨by decide, rfl⟩ ?_
  rw [← hl] at hall ⊢
  clear hl
  refine WC.loop (fun mm τ H => ∃ i : Nat, i ≤ 6 ∧ mm = 6 - i ∧ τ = [(9, .slice (some ⟨bL, 0, none⟩) 6 6), (10, .int .i64 (i : Nat))] ∧ H = [.vw (some ⟨bL, 0, none⟩) 6 14 (flat Ck.St.cs l)]) 6 _ _ [0] ?_ ?_ ⟨0, by omega, rfl, rfl, rfl⟩ ?_
  · exact (by repeat (first | exact Sub.nil | refine Sub.cons rfl ?_ | refine Sub.consE rfl (int_eq (by omega)) ?_))
  · exact ⟨by decide, rfl⟩
  rintro mm τ H ⟨i, hi, rfl, rfl, rfl⟩
  by_cases hi6 : i < 6
  · obtain ⟨x, hx⟩ : ∃ x, l[i]? = some x := ⟨_, List.getElem?_eq_getElem (by omega)⟩
    obtain ⟨hxo, hxr, hxp⟩ := hall x (List.mem_of_getElem? hx)
    have hpp : PartAt (flat Ck.St.cs l) (i * 14) x.cs := PartAt.flat Ck.cs_len hx
    have q1 := fun w => build_q [107, 101, 121] (by simp) x hxo (by rw [hxp]; omega) w
    rw [Ck.build_yes hxr] at q1
    have hrb := Ck.read_build (k := [107, 101, 121]) hxo hxr
    have hlen : (Hm.sum [107, 101, 121] (Ck.bytes x) ++ Ck.bytes x).length ≤ 1000 := by
      rw [List.length_append, Hm.sum_len, Ck.bytes_len, hxp]; omega
    generalize Hm.sum [107, 101, 121] (Ck.bytes x) ++ Ck.bytes x = c at *
    have q3 := fun w => read_q [107, 101, 121] c (by simp) (by omega) w
    rw [hrb] at q3
    simp only at q1 q3
    repeat' (first
    | refine goS ?_
    | ((with_reducible refine WL.isN_bin ?_); first | refine WL.yld rfl (Yld.neqSame 4 rfl rfl rfl (by kernel_rfl) (by kernel_rfl) rfl rfl (by simp)) ?_ | refine WL.yld rfl binQ ?_)
    | ((with_reducible refine WK.isN_bin ?_); first | refine WK.yld rfl (Yld.neqSame 4 rfl rfl rfl (by kernel_rfl) (by kernel_rfl) rfl rfl (by simp)) ?_ | refine WK.yld rfl binQ ?_)
    | ((with_reducible refine WL.isN_load ?_); first | refine WL.yld rfl loadQ ?_)
    | ((with_reducible refine WK.isN_load ?_); first | refine WK.yld rfl loadQ ?_)
    | ((with_reducible refine WL.isN_iaddr ?_); first | refine WL.yld rfl (Yld.indexS i rfl rfl rfl rfl rfl rfl hi6) ?_ | refine WL.yld rfl iaddrQ ?_)
    | ((with_reducible refine WK.isN_iaddr ?_); first | refine WK.yld rfl (Yld.indexS i rfl rfl rfl rfl rfl rfl hi6) ?_ | refine WK.yld rfl iaddrQ ?_)
    | ((with_reducible refine WL.isN_call ?_); first | refine WL.step rfl (StepTo.callV (v := .tuple #[.string (bs c), .int .i64 0]) (us := [.string (bs [107, 101, 121]), .agg x.cs.toArray]) rfl rfl rfl rfl rfl (by kernel_rfl) (fun w hw => q1 w) ?_) | refine WL.step rfl (StepTo.callV (v := .tuple #[.agg x.cs.toArray, .int .i64 0]) (us := [.string (bs [107, 101, 121]), .string (bs c)]) rfl rfl rfl rfl rfl (by kernel_rfl) (fun w hw => q3 w) ?_) | refine WL.yld rfl lenQ ?_)
    | ((with_reducible refine WK.isN_call ?_); first | refine WL.step rfl (StepTo.callV (v := .tuple #[.string (bs c), .int .i64 0]) (us := [.string (bs [107, 101, 121]), .agg x.cs.toArray]) rfl rfl rfl rfl rfl (by kernel_rfl) (fun w hw => q1 w) ?_) | refine WL.step rfl (StepTo.callV (v := .tuple #[.agg x.cs.toArray, .int .i64 0]) (us := [.string (bs [107, 101, 121]), .string (bs c)]) rfl rfl rfl rfl rfl (by kernel_rfl) (fun w hw => q3 w) ?_) | refine WK.yld rfl lenQ ?_)
    | ((with_reducible refine WL.isN_box ?_); first | refine WL.step rfl (StepTo.boxA rfl rfl rfl rfl (fun _ => ?_)) | refine WL.step rfl (StepTo.box1 rfl rfl rfl rfl rfl (fun _ => ?_)))
    | ((with_reducible refine WL.isN_alloc ?_); first | refine WL.step rfl (StepTo.allocA rfl rfl rfl rfl (fun _ => ?_)) | refine WL.step rfl (StepTo.alloc1 rfl rfl rfl rfl rfl (fun _ => ?_)))
    | ((with_reducible refine WL.isN_store ?_); first | refine WL.step rfl (StepTo.st1 rfl rfl rfl rfl rfl rfl ?_) | refine WL.step rfl (StepTo.stA rfl rfl rfl rfl rfl rfl rfl ?_) | refine WL.step rfl (StepTo.stR rfl rfl rfl rfl rfl rfl rfl ?_))
    | ((with_reducible refine WL.isN_bslice ?_); first | refine WL.step rfl (StepTo.buildSlice rfl rfl rfl rfl rfl rfl rfl rfl rfl rfl cellsOfQ (fun _ => ?_)))
    | with_reducible refine WC.block ?_
    | (refine WC.quiet (i := 17) (by kernel_rfl) (by kernel_rfl) ?_)
    | (refine WC.cond rfl (fun hc => ?_) (fun hc => ?_) <;> (try first | (with_reducible replace hc := of_decide_eq_true hc) | (with_reducible replace hc := of_decide_eq_false hc) | (with_reducible replace hc := eqT hc) | (with_reducible replace hc := eqF hc) | (with_reducible replace hc := neT hc) | (with_reducible replace hc := neF hc) | (with_reducible replace hc := noT hc) | (with_reducible replace hc := noF hc)) <;> (try (exfalso; omega))))
    exact WQ.rnd (6 - (i + 1)) _ _ [1] (by repeat (first | exact Sub.nil | refine Sub.cons rfl ?_ | refine Sub.consE rfl (int_eq (by omega)) ?_)) ⟨by decide, rfl⟩ (by omega) ⟨i + 1, by omega, rfl, rfl, rfl⟩
  · obtain rfl : i = 6 := by omega
    repeat' (first
    | refine goS ?_
    | ((with_reducible refine WL.isN_bin ?_); first | refine WL.yld rfl binQ ?_)
    | ((with_reducible refine WL.isN_load ?_); first | refine WL.yld rfl loadQ ?_)
    | ((with_reducible refine WL.isN_iaddr ?_); first | refine WL.yld rfl iaddrQ ?_)
    | ((with_reducible refine WL.isN_call ?_); first | refine WL.yld rfl lenQ ?_)
    | ((with_reducible refine WL.isN_box ?_); first | refine WL.step rfl (StepTo.boxA rfl rfl rfl rfl (fun _ => ?_)) | refine WL.step rfl (StepTo.box1 rfl rfl rfl rfl rfl (fun _ => ?_)))
    | ((with_reducible refine WL.isN_alloc ?_); first | refine WL.step rfl (StepTo.allocA rfl rfl rfl rfl (fun _ => ?_)) | refine WL.step rfl (StepTo.alloc1 rfl rfl rfl rfl rfl (fun _ => ?_)))
    | ((with_reducible refine WL.isN_store ?_); first | refine WL.step rfl (StepTo.st1 rfl rfl rfl rfl rfl rfl ?_) | refine WL.step rfl (StepTo.stA rfl rfl rfl rfl rfl rfl rfl ?_) | refine WL.step rfl (StepTo.stR rfl rfl rfl rfl rfl rfl rfl ?_))
    | ((with_reducible refine WL.isN_bslice ?_); first | refine WL.step rfl (StepTo.buildSlice rfl rfl rfl rfl rfl rfl rfl rfl rfl rfl cellsOfQ (fun _ => ?_)))
    | with_reducible refine WC.block ?_
    | (refine WC.cond rfl (fun hc => ?_) (fun hc => ?_) <;> (try first | (with_reducible replace hc := of_decide_eq_true hc) | (with_reducible replace hc := of_decide_eq_false hc) | (with_reducible replace hc := eqT hc) | (with_reducible replace hc := eqF hc) | (with_reducible replace hc := neT hc) | (with_reducible replace hc := neF hc) | (with_reducible replace hc := noT hc) | (with_reducible replace hc := noF hc)) <;> (try (exfalso; omega))))
    exact WQ.body (Reads.tmp rfl rfl) fun w' hw' => ⟨rfl, hw'.ext.below⟩
end Go.Proofs.Ytheilikelcgdmaa
