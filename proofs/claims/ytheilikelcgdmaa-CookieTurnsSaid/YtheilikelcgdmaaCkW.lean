/- The law CookieLives. -/
import Derived.Test.YtheilikelcgdmaaCkU
namespace Go.Proofs.Ytheilikelcgdmaa
open Go.RowKit Go.IntWalk
set_option linter.unusedVariables false
set_option linter.unusedSectionVars false
set_option maxRecDepth 100000

/-- Which of n things a raw number speaks of. -/
def pk (c n : Int) : Int := (if c < 0 then -(c + 1) else c) % n
theorem pk_lt {c n : Int} (h : 0 < n) : 0 ≤ pk c n ∧ pk c n < n := ⟨Int.emod_nonneg _ (by omega), Int.emod_lt_of_pos _ h⟩
theorem ckpick_q (c n : Int) (hc : -9223372036854775808 ≤ c ∧ c ≤ 9223372036854775807) (hn : 0 < n ∧ n ≤ 1000000) (w : World) : Calls Try.prog 19 #[.int .i64 c, .int .i64 n] w fun e w' => e = .returned (.int .i64 (pk c n)) ∧ Below w.heap.size w w' := by
  by_cases h : c < 0
  · rw [pk, if_pos h]
    refine enterW (fun _ => False) _ Try.func19 rfl (by simp only [Try.ntmps19, List.length_cons, List.length_nil, Nat.reduceAdd, Nat.reduceSub]; rfl) ?_
    repeat' (first
    | refine goS ?_
    | ((with_reducible refine WL.isN_bin ?_); first | refine WL.yld rfl binQ ?_)
    | with_reducible refine WC.block ?_
    | (refine WC.cond rfl (fun hc => ?_) (fun hc => ?_) <;> (try first | (with_reducible replace hc := of_decide_eq_true hc) | (with_reducible replace hc := of_decide_eq_false hc) | (with_reducible replace hc := eqT hc) | (with_reducible replace hc := eqF hc) | (with_reducible replace hc := neT hc) | (with_reducible replace hc := neF hc) | (with_reducible replace hc := noT hc) | (with_reducible replace hc := noF hc)) <;> (try (exfalso; omega))))
    exact WQ.body (Reads.tmp rfl rfl) fun w' hw' => ⟨by rw [show (0 : Int) - (c + 1) = -(c + 1) from by omega], hw'.ext.below⟩
  · rw [pk, if_neg h]
    refine enterW (fun _ => False) _ Try.func19 rfl (by simp only [Try.ntmps19, List.length_cons, List.length_nil, Nat.reduceAdd, Nat.reduceSub]; rfl) ?_
    repeat' (first
    | refine goS ?_
    | ((with_reducible refine WL.isN_bin ?_); first | refine WL.yld rfl binQ ?_)
    | with_reducible refine WC.block ?_
    | (refine WC.cond rfl (fun hc => ?_) (fun hc => ?_) <;> (try first | (with_reducible replace hc := of_decide_eq_true hc) | (with_reducible replace hc := of_decide_eq_false hc) | (with_reducible replace hc := eqT hc) | (with_reducible replace hc := eqF hc) | (with_reducible replace hc := neT hc) | (with_reducible replace hc := neF hc) | (with_reducible replace hc := noT hc) | (with_reducible replace hc := noF hc)) <;> (try (exfalso; omega))))
    exact WQ.body (Reads.tmp rfl rfl) fun w' hw' => ⟨rfl, hw'.ext.below⟩
namespace Ck
theorem read_other {k k2 : List UInt8} {s : St} (hs : s.Ok) (hr : right s = true) : read k2 (Hm.sum k (bytes s) ++ bytes s) = (s, 0) ∨ read k2 (Hm.sum k (bytes s) ++ bytes s) = (St.zero, 5) := by
  have hl := Hm.sum_len k (bytes s)
  by_cases h : Hm.sum k2 (bytes s) = Hm.sum k (bytes s)
  · left
    rw [← h]
    exact read_build hs hr
  · right
    have hd : (Hm.sum k (bytes s) ++ bytes s).drop 32 = bytes s := cut_end hl
    have ht : (Hm.sum k (bytes s) ++ bytes s).take 32 = Hm.sum k (bytes s) := by rw [List.take_append, List.take_of_length_le (by omega), hl]; simp
    rw [read, if_neg (by rw [List.length_append]; omega), hd, ht, if_pos h]
theorem kread_two {k k2 c : List UInt8} {s : St} {since now : Int} (h : read k c = (s, 0)) (h2 : read k2 c = (s, 0) ∨ read k2 c = (St.zero, 5)) :
    kread [k2, k] since c now = kfin (s, 0) now ∨ (kread [k2, k] since c now = (St.zero, 5) ∧ 60000 < now - since) := by
  rcases h2 with h2 | h2
  · left
    rw [kread, h2, if_neg (by simp)]
  · by_cases ht : now - since ≤ 60000
    · left
      rw [kread, h2, if_pos ⟨rfl, by simp, ht⟩, List.headD_cons, h]
    · right
      refine ⟨?_, by omega⟩
      rw [kread, h2, if_neg (by simp [ht]), kfin, if_pos (by simp)]
theorem kfin_early {s : St} {now : Int} (h : now < s.made) : kfin (s, 0) now = (St.zero, 7) := by rw [kfin, if_neg (by simp), if_pos (.inl h)]
theorem kfin_stale {s : St} {now : Int} (h : s.life < now - s.made) : kfin (s, 0) now = (St.zero, 7) := by rw [kfin, if_neg (by simp), if_pos (.inr h)]
theorem kfin_yes {s : St} {now : Int} (h : s.made ≤ now) (h2 : now - s.made ≤ s.life) : kfin (s, 0) now = (s, 0) := by rw [kfin, if_neg (by simp), if_neg (by simp; omega)]
theorem kread_one {k c : List UInt8} {s : St} {since now : Int} (h : read k c = (s, 0)) : kread [k] since c now = kfin (s, 0) now := by rw [kread, h, if_neg (by simp)]
end Ck
set_option maxHeartbeats 4000000 in
theorem cookieLives_walk (k0 o0 : ByteArray) (s : Ck.St) (life turn now : Int) (w : World) (h0 : k0.size ≤ maxLen) (h0' : o0.size ≤ maxLen) (h1 : s.Ok ∧ s.peer.length ≤ maxLen ∧ (-9223372036854775808 ≤ s.made ∧ s.made ≤ 9223372036854775807) ∧ (-9223372036854775808 ≤ s.life ∧ s.life ≤ 9223372036854775807)) (h2 : (Lit.int .i64 life).wf = true) (h3 : (Lit.int .i64 turn).wf = true) (h4 : (Lit.int .i64 now).wf = true) :
    Calls Try.prog 7 #[.string k0, .string o0, .agg s.cs.toArray, .int .i64 life, .int .i64 turn, .int .i64 now] w fun e w' => e = .returned (.bool true) ∧ Below w.heap.size w w' := by
  obtain ⟨k, rfl⟩ : ∃ s, k0 = bs s := ⟨_, (bs_eta k0).symm⟩
  obtain ⟨o, rfl⟩ : ∃ s, o0 = bs s := ⟨_, (bs_eta o0).symm⟩
  clear h0 h0'
  replace h2 : -9223372036854775808 ≤ life ∧ life ≤ 9223372036854775807 := by simpa [Lit.wf, IntKind.min, IntKind.max, IntKind.bits, IntKind.signed] using h2
  replace h3 : -9223372036854775808 ≤ turn ∧ turn ≤ 9223372036854775807 := by simpa [Lit.wf, IntKind.min, IntKind.max, IntKind.bits, IntKind.signed] using h3
  replace h4 : -9223372036854775808 ≤ now ∧ now ≤ 9223372036854775807 := by simpa [Lit.wf, IntKind.min, IntKind.max, IntKind.bits, IntKind.signed] using h4
  have pq1 := fun w => ckpick_q life 60001 h2 (by omega) w
  have pq2 := fun w => ckpick_q turn 60001 h3 (by omega) w
  have pq3 := fun w => ckpick_q now 61000 h4 (by omega) w
  have pb1 := pk_lt (c := life) (n := 60001) (by omega)
  have pb2 := pk_lt (c := turn) (n := 60001) (by omega)
  have pb3 := pk_lt (c := now) (n := 61000) (by omega)
  generalize pk life 60001 = L at *
  generalize pk turn 60001 = T at *
  generalize pk now 61000 = W at *
  clear h2 h3 h4
  obtain ⟨hs, hp, _, _⟩ := h1
  have sq := fun w => short_q s hp w
  by_cases g0 : s.peer.length ≤ 300
  case neg =>
    rw [decide_eq_false g0] at sq
    refine enterW (fun _ => False) _ Try.func7 rfl (by simp only [Try.ntmps7, List.length_cons, List.length_nil, Nat.reduceAdd, Nat.reduceSub]; rfl) ?_
    repeat' (first
    | refine goS ?_
    | ((with_reducible refine WL.isN_bin ?_); first | refine WL.yld rfl binQ ?_)
    | ((with_reducible refine WL.isN_load ?_); first | refine WL.yld rfl loadQ ?_)
    | ((with_reducible refine WL.isN_build ?_); first | refine WL.yld rfl buildQ ?_)
    | ((with_reducible refine WL.isN_call ?_); first | refine WL.step rfl (StepTo.callV (v := .bool true) (us := []) rfl rfl rfl rfl rfl (by kernel_rfl) (fun w hw => ckshown_q w) ?_) | refine WL.step rfl (StepTo.callV (v := .bool false) (us := [.agg s.cs.toArray]) rfl rfl rfl rfl rfl (by kernel_rfl) (fun w hw => sq w) ?_) | refine WL.yld rfl (Yld.lenB rfl rfl rfl) ?_ | refine WL.yld rfl lenQ ?_)
    | ((with_reducible refine WL.isN_box ?_); first | refine WL.step rfl (StepTo.boxA rfl rfl rfl rfl (fun _ => ?_)) | refine WL.step rfl (StepTo.box1 rfl rfl rfl rfl rfl (fun _ => ?_)))
    | ((with_reducible refine WL.isN_alloc ?_); first | refine WL.step rfl (StepTo.allocA rfl rfl rfl rfl (fun _ => ?_)) | refine WL.step rfl (StepTo.alloc1 rfl rfl rfl rfl rfl (fun _ => ?_)))
    | ((with_reducible refine WL.isN_store ?_); first | refine WL.step rfl (StepTo.st1 rfl rfl rfl rfl rfl rfl ?_) | refine WL.step rfl (StepTo.stA rfl rfl rfl rfl rfl rfl rfl ?_) | refine WL.step rfl (StepTo.stR rfl rfl rfl rfl rfl rfl rfl ?_))
    | with_reducible refine WC.block ?_
    | (refine WC.cond rfl (fun hc => ?_) (fun hc => ?_) <;> (try first | (with_reducible replace hc := of_decide_eq_true hc) | (with_reducible replace hc := of_decide_eq_false hc) | (with_reducible replace hc := eqT hc) | (with_reducible replace hc := eqF hc) | (with_reducible replace hc := neT hc) | (with_reducible replace hc := neF hc) | (with_reducible replace hc := noT hc) | (with_reducible replace hc := noF hc)) <;> (try (exfalso; omega))))
    exact WQ.body (Reads.tmp rfl rfl) fun w' hw' => ⟨rfl, hw'.ext.below⟩
  rw [decide_eq_true g0] at sq
  by_cases g1 : k.length ≤ 300
  case neg =>
    refine enterW (fun _ => False) _ Try.func7 rfl (by simp only [Try.ntmps7, List.length_cons, List.length_nil, Nat.reduceAdd, Nat.reduceSub]; rfl) ?_
    repeat' (first
    | refine goS ?_
    | ((with_reducible refine WL.isN_bin ?_); first | refine WL.yld rfl binQ ?_)
    | ((with_reducible refine WL.isN_load ?_); first | refine WL.yld rfl loadQ ?_)
    | ((with_reducible refine WL.isN_build ?_); first | refine WL.yld rfl buildQ ?_)
    | ((with_reducible refine WL.isN_call ?_); first | refine WL.step rfl (StepTo.callV (v := .bool true) (us := []) rfl rfl rfl rfl rfl (by kernel_rfl) (fun w hw => ckshown_q w) ?_) | refine WL.step rfl (StepTo.callV (v := .bool true) (us := [.agg s.cs.toArray]) rfl rfl rfl rfl rfl (by kernel_rfl) (fun w hw => sq w) ?_) | refine WL.yld rfl (Yld.lenB rfl rfl rfl) ?_ | refine WL.yld rfl lenQ ?_)
    | ((with_reducible refine WL.isN_box ?_); first | refine WL.step rfl (StepTo.boxA rfl rfl rfl rfl (fun _ => ?_)) | refine WL.step rfl (StepTo.box1 rfl rfl rfl rfl rfl (fun _ => ?_)))
    | ((with_reducible refine WL.isN_alloc ?_); first | refine WL.step rfl (StepTo.allocA rfl rfl rfl rfl (fun _ => ?_)) | refine WL.step rfl (StepTo.alloc1 rfl rfl rfl rfl rfl (fun _ => ?_)))
    | ((with_reducible refine WL.isN_store ?_); first | refine WL.step rfl (StepTo.st1 rfl rfl rfl rfl rfl rfl ?_) | refine WL.step rfl (StepTo.stA rfl rfl rfl rfl rfl rfl rfl ?_) | refine WL.step rfl (StepTo.stR rfl rfl rfl rfl rfl rfl rfl ?_))
    | with_reducible refine WC.block ?_
    | (refine WC.cond rfl (fun hc => ?_) (fun hc => ?_) <;> (try first | (with_reducible replace hc := of_decide_eq_true hc) | (with_reducible replace hc := of_decide_eq_false hc) | (with_reducible replace hc := eqT hc) | (with_reducible replace hc := eqF hc) | (with_reducible replace hc := neT hc) | (with_reducible replace hc := neF hc) | (with_reducible replace hc := noT hc) | (with_reducible replace hc := noF hc)) <;> (try (exfalso; omega))))
    exact WQ.body (Reads.tmp rfl rfl) fun w' hw' => ⟨rfl, hw'.ext.below⟩
  by_cases g2 : o.length ≤ 300
  case neg =>
    refine enterW (fun _ => False) _ Try.func7 rfl (by simp only [Try.ntmps7, List.length_cons, List.length_nil, Nat.reduceAdd, Nat.reduceSub]; rfl) ?_
    repeat' (first
    | refine goS ?_
    | ((with_reducible refine WL.isN_bin ?_); first | refine WL.yld rfl binQ ?_)
    | ((with_reducible refine WL.isN_load ?_); first | refine WL.yld rfl loadQ ?_)
    | ((with_reducible refine WL.isN_build ?_); first | refine WL.yld rfl buildQ ?_)
    | ((with_reducible refine WL.isN_call ?_); first | refine WL.step rfl (StepTo.callV (v := .bool true) (us := []) rfl rfl rfl rfl rfl (by kernel_rfl) (fun w hw => ckshown_q w) ?_) | refine WL.step rfl (StepTo.callV (v := .bool true) (us := [.agg s.cs.toArray]) rfl rfl rfl rfl rfl (by kernel_rfl) (fun w hw => sq w) ?_) | refine WL.yld rfl (Yld.lenB rfl rfl rfl) ?_ | refine WL.yld rfl lenQ ?_)
    | ((with_reducible refine WL.isN_box ?_); first | refine WL.step rfl (StepTo.boxA rfl rfl rfl rfl (fun _ => ?_)) | refine WL.step rfl (StepTo.box1 rfl rfl rfl rfl rfl (fun _ => ?_)))
    | ((with_reducible refine WL.isN_alloc ?_); first | refine WL.step rfl (StepTo.allocA rfl rfl rfl rfl (fun _ => ?_)) | refine WL.step rfl (StepTo.alloc1 rfl rfl rfl rfl rfl (fun _ => ?_)))
    | ((with_reducible refine WL.isN_store ?_); first | refine WL.step rfl (StepTo.st1 rfl rfl rfl rfl rfl rfl ?_) | refine WL.step rfl (StepTo.stA rfl rfl rfl rfl rfl rfl rfl ?_) | refine WL.step rfl (StepTo.stR rfl rfl rfl rfl rfl rfl rfl ?_))
    | with_reducible refine WC.block ?_
    | (refine WC.cond rfl (fun hc => ?_) (fun hc => ?_) <;> (try first | (with_reducible replace hc := of_decide_eq_true hc) | (with_reducible replace hc := of_decide_eq_false hc) | (with_reducible replace hc := eqT hc) | (with_reducible replace hc := eqF hc) | (with_reducible replace hc := neT hc) | (with_reducible replace hc := neF hc) | (with_reducible replace hc := noT hc) | (with_reducible replace hc := noF hc)) <;> (try (exfalso; omega))))
    exact WQ.body (Reads.tmp rfl rfl) fun w' hw' => ⟨rfl, hw'.ext.below⟩
  have q8 := fun w => ckright_q s hs (by omega) w
  cases hr : Ck.right s with
  | false =>
    rw [hr] at q8
    refine enterW (fun _ => False) _ Try.func7 rfl (by simp only [Try.ntmps7, List.length_cons, List.length_nil, Nat.reduceAdd, Nat.reduceSub]; rfl) ?_
    repeat' (first
    | refine goS ?_
    | ((with_reducible refine WL.isN_bin ?_); first | refine WL.yld rfl binQ ?_)
    | ((with_reducible refine WL.isN_load ?_); first | refine WL.yld rfl loadQ ?_)
    | ((with_reducible refine WL.isN_build ?_); first | refine WL.yld rfl buildQ ?_)
    | ((with_reducible refine WL.isN_call ?_); first | refine WL.step rfl (StepTo.callV (v := .bool true) (us := []) rfl rfl rfl rfl rfl (by kernel_rfl) (fun w hw => ckshown_q w) ?_) | refine WL.step rfl (StepTo.callV (v := .bool true) (us := [.agg s.cs.toArray]) rfl rfl rfl rfl rfl (by kernel_rfl) (fun w hw => sq w) ?_) | refine WL.yld rfl (Yld.lenB rfl rfl rfl) ?_ | refine WL.step rfl (StepTo.callV (v := .bool false) (us := [.agg s.cs.toArray]) rfl rfl rfl rfl rfl (by kernel_rfl) (fun w hw => q8 w) ?_) | refine WL.yld rfl lenQ ?_)
    | ((with_reducible refine WL.isN_box ?_); first | refine WL.step rfl (StepTo.boxA rfl rfl rfl rfl (fun _ => ?_)) | refine WL.step rfl (StepTo.box1 rfl rfl rfl rfl rfl (fun _ => ?_)))
    | ((with_reducible refine WL.isN_alloc ?_); first | refine WL.step rfl (StepTo.allocA rfl rfl rfl rfl (fun _ => ?_)) | refine WL.step rfl (StepTo.alloc1 rfl rfl rfl rfl rfl (fun _ => ?_)))
    | ((with_reducible refine WL.isN_store ?_); first | refine WL.step rfl (StepTo.st1 rfl rfl rfl rfl rfl rfl ?_) | refine WL.step rfl (StepTo.stA rfl rfl rfl rfl rfl rfl rfl ?_) | refine WL.step rfl (StepTo.stR rfl rfl rfl rfl rfl rfl rfl ?_))
    | with_reducible refine WC.block ?_
    | (refine WC.cond rfl (fun hc => ?_) (fun hc => ?_) <;> (try first | (with_reducible replace hc := of_decide_eq_true hc) | (with_reducible replace hc := of_decide_eq_false hc) | (with_reducible replace hc := eqT hc) | (with_reducible replace hc := eqF hc) | (with_reducible replace hc := neT hc) | (with_reducible replace hc := neF hc) | (with_reducible replace hc := noT hc) | (with_reducible replace hc := noF hc)) <;> (try (exfalso; omega))))
    exact WQ.body (Reads.tmp rfl rfl) fun w' hw' => ⟨rfl, hw'.ext.below⟩
  | true =>
  rw [hr] at q8
  obtain ⟨s1, hs1⟩ : ∃ s1 : Ck.St, s1 = { s with life := L } := ⟨_, rfl⟩
  have hs1o : s1.Ok := by
    obtain ⟨h1, h2, h3, h4, h5, h6, h7, h8, h9, h10, h11⟩ := hs
    rw [hs1]; exact ⟨h1, h2, h3, h4, h5, h6, h7, h8, h9, h10, h11⟩
  obtain ⟨hrp, ⟨hm0, hm1, hl0, hl1⟩, hrr⟩ := Ck.right_iff.1 hr
  have hs1r : Ck.right s1 = true := by rw [hs1]; exact Ck.right_iff.2 ⟨hrp, ⟨hm0, hm1, pb1.1, by show L ≤ 1099511627776; omega⟩, hrr⟩
  have hs1m : s1.made = s.made := by rw [hs1]
  have hs1l : s1.life = L := by rw [hs1]
  have hs1p : s1.peer.length ≤ 300 := by rw [hs1]; exact g0
  have hcs : s1.cs = [.int .u32 (s.ot : Nat), .int .u32 (s.pt : Nat), .int .u32 (s.os : Nat), .int .u32 (s.ps : Nat), .int .u32 (s.to_ : Nat), .int .u32 (s.tp : Nat), .int .u32 (s.wi : Nat), .int .u16 (s.ou : Nat), .int .u16 (s.ins : Nat), .int .u16 (s.op : Nat), .int .u16 (s.pp : Nat), .string (bs s.peer), .int .i64 s.made, .int .i64 L] := by rw [hs1]
  refine enterW (fun _ => False) _ Try.func7 rfl (by simp only [Try.ntmps7, List.length_cons, List.length_nil, Nat.reduceAdd, Nat.reduceSub]; rfl) ?_
  refine WC.nilVw 1 ?_
  repeat' (first
    | refine goS ?_
    | ((with_reducible refine WL.isN_bin ?_); first | refine WL.yld rfl binQ ?_)
    | ((with_reducible refine WL.isN_load ?_); first | refine WL.yld rfl loadQ ?_)
    | ((with_reducible refine WL.isN_build ?_); first | refine WL.yld rfl buildQ ?_)
    | ((with_reducible refine WL.isN_call ?_); first | refine WL.step rfl (StepTo.callV (v := .bool true) (us := []) rfl rfl rfl rfl rfl (by kernel_rfl) (fun w hw => ckshown_q w) ?_) | refine WL.step rfl (StepTo.callV (v := .bool true) (us := [.agg s.cs.toArray]) rfl rfl rfl rfl rfl (by kernel_rfl) (fun w hw => sq w) ?_) | refine WL.yld rfl (Yld.lenB rfl rfl rfl) ?_ | refine WL.step rfl (StepTo.callV (v := .bool true) (us := [.agg s.cs.toArray]) rfl rfl rfl rfl rfl (by kernel_rfl) (fun w hw => q8 w) ?_) | refine WL.step rfl (StepTo.callV (v := .int .i64 L) (us := [.int .i64 life, .int .i64 60001]) rfl rfl rfl rfl rfl (by kernel_rfl) (fun w hw => pq1 w) ?_) | refine WL.yld rfl lenQ ?_)
    | ((with_reducible refine WL.isN_box ?_); first | refine WL.step rfl (StepTo.boxA rfl rfl rfl rfl (fun _ => ?_)) | refine WL.step rfl (StepTo.box1 rfl rfl rfl rfl rfl (fun _ => ?_)))
    | ((with_reducible refine WL.isN_alloc ?_); first | refine WL.step rfl (StepTo.allocA rfl rfl rfl rfl (fun _ => ?_)) | refine WL.step rfl (StepTo.alloc1 rfl rfl rfl rfl rfl (fun _ => ?_)))
    | ((with_reducible refine WL.isN_store ?_); first | refine WL.step rfl (StepTo.st1 rfl rfl rfl rfl rfl rfl ?_) | refine WL.step rfl (StepTo.stA rfl rfl rfl rfl rfl rfl rfl ?_) | refine WL.step rfl (StepTo.stR rfl rfl rfl rfl rfl rfl rfl ?_))
    | with_reducible refine WC.block ?_
    | (refine WC.cond rfl (fun hc => ?_) (fun hc => ?_) <;> (try first | (with_reducible replace hc := of_decide_eq_true hc) | (with_reducible replace hc := of_decide_eq_false hc) | (with_reducible replace hc := eqT hc) | (with_reducible replace hc := eqF hc) | (with_reducible replace hc := neT hc) | (with_reducible replace hc := neF hc) | (with_reducible replace hc := noT hc) | (with_reducible replace hc := noF hc)) <;> (try (exfalso; omega))))
  rename_i bS bG
  refine WL.step rfl (StepTo.callP (us := [.pointer (some ⟨bG, 0, none⟩), .string (bs k), .int .i64 0]) (HI := [.box bG 48 [.slice none 0 0, .int .i64 0]]) [0] [1] ⟨by decide, rfl⟩ rfl ⟨by decide, rfl⟩ rfl rfl rfl rfl rfl rfl (by kernel_rfl) (fun w hw hS => kturn_w bG none 0 0 0 0 [] k okA_nil (by omega) rfl w (hw.aloneV (idx := [0, 2]) (C := [.vw none 0 1 (flat kc [])]) ⟨by decide, rfl⟩ (by simp [Item.mine]))) ?_)
  rintro v NN ⟨A1, n1, c1, rfl, hA1, hn1, rfl⟩
  obtain rfl : n1 = 1 := hn1
  rw [show (k :: ([] : List (List UInt8))).take 2 = [k] from rfl]
  have q1 := fun w hI hL => kbuild_q bG A1 1 c1 0 [k] s1 w hI hL (by simp; omega) hs1o (by omega)
  have hkb : Ck.kbuild [k] s1 = Ck.build k s1 := rfl
  rw [hkb, Ck.build_yes hs1r] at q1
  clear hkb
  have hrb := Ck.read_build (k := k) hs1o hs1r
  have hro := Ck.read_other (k := k) (k2 := o) hs1o hs1r
  have hlen : (Hm.sum k (Ck.bytes s1) ++ Ck.bytes s1).length ≤ 1000 := by
    rw [List.length_append, Hm.sum_len, Ck.bytes_len]; omega
  generalize Hm.sum k (Ck.bytes s1) ++ Ck.bytes s1 = cc at *
  have q2 := fun w hI hL => kread_q bG A1 1 c1 0 (s.made - 1) [k] cc w hI hL (by simp; omega) (by omega) (by omega) (by omega)
  rw [Ck.kread_one hrb, Ck.kfin_early (by omega)] at q2
  have q3 := fun w hI hL => kread_q bG A1 1 c1 0 (s.made + W) [k] cc w hI hL (by simp; omega) (by omega) (by omega) (by omega)
  rw [Ck.kread_one hrb] at q3
  simp only at q1 q2
  have hk2 := Ck.kread_two (since := s.made + T) (now := s.made + W) hrb hro
  rw [hcs] at q1
  by_cases hTW : T ≤ W
  case neg =>
    repeat' (first
    | refine goS ?_
    | ((with_reducible refine WL.isN_bin ?_); first | refine WL.yld rfl (Yld.neqSame 4 rfl rfl rfl (by kernel_rfl) (by kernel_rfl) rfl rfl (by simp [Ck.St.zero, bs_toList])) ?_ | refine WL.yld rfl binQ ?_)
    | ((with_reducible refine WK.isN_bin ?_); first | refine WK.yld rfl (Yld.neqSame 4 rfl rfl rfl (by kernel_rfl) (by kernel_rfl) rfl rfl (by simp [Ck.St.zero, bs_toList])) ?_ | refine WK.yld rfl binQ ?_)
    | ((with_reducible refine WL.isN_load ?_); first | refine WL.yld rfl loadQ ?_)
    | ((with_reducible refine WK.isN_load ?_); first | refine WK.yld rfl loadQ ?_)
    | ((with_reducible refine WL.isN_build ?_); first | refine WL.yld rfl buildQ ?_)
    | ((with_reducible refine WK.isN_build ?_); first | refine WK.yld rfl buildQ ?_)
    | ((with_reducible refine WL.isN_call ?_); first | refine WL.step rfl (StepTo.callV (v := .tuple #[.string (bs cc), .int .i64 0]) (us := [.pointer (some ⟨bG, 0, none⟩), .agg _]) rfl rfl rfl rfl rfl (by kernel_rfl) (fun w hw => q1 w (inp_box hw 0 rfl) (hw.lst 1 kc_len (by omega) rfl)) ?_) | refine WK.step rfl (Qui.call (v := .int .i64 T) (us := [.int .i64 turn, .int .i64 60001]) rfl rfl rfl (by kernel_rfl) (fun w _ => pq2 w)) ?_ | refine WL.step rfl (StepTo.callV (v := .tuple #[.agg Ck.St.zero.cs.toArray, .int .i64 7]) (us := [.pointer (some ⟨bG, 0, none⟩), .string (bs cc), .int .i64 (s.made - 1)]) rfl rfl rfl rfl rfl (by kernel_rfl) (fun w hw => q2 w (inp_box hw 0 rfl) (hw.lst 1 kc_len (by omega) rfl)) ?_) | refine WK.step rfl (Qui.call (v := .int .i64 W) (us := [.int .i64 now, .int .i64 61000]) rfl rfl rfl (by kernel_rfl) (fun w _ => pq3 w)) ?_ | refine WL.yld rfl lenQ ?_)
    | ((with_reducible refine WK.isN_call ?_); first | refine WL.step rfl (StepTo.callV (v := .tuple #[.string (bs cc), .int .i64 0]) (us := [.pointer (some ⟨bG, 0, none⟩), .agg _]) rfl rfl rfl rfl rfl (by kernel_rfl) (fun w hw => q1 w (inp_box hw 0 rfl) (hw.lst 1 kc_len (by omega) rfl)) ?_) | refine WK.step rfl (Qui.call (v := .int .i64 T) (us := [.int .i64 turn, .int .i64 60001]) rfl rfl rfl (by kernel_rfl) (fun w _ => pq2 w)) ?_ | refine WL.step rfl (StepTo.callV (v := .tuple #[.agg Ck.St.zero.cs.toArray, .int .i64 7]) (us := [.pointer (some ⟨bG, 0, none⟩), .string (bs cc), .int .i64 (s.made - 1)]) rfl rfl rfl rfl rfl (by kernel_rfl) (fun w hw => q2 w (inp_box hw 0 rfl) (hw.lst 1 kc_len (by omega) rfl)) ?_) | refine WK.step rfl (Qui.call (v := .int .i64 W) (us := [.int .i64 now, .int .i64 61000]) rfl rfl rfl (by kernel_rfl) (fun w _ => pq3 w)) ?_ | refine WK.yld rfl lenQ ?_)
    | ((with_reducible refine WL.isN_box ?_); first | refine WL.step rfl (StepTo.boxA rfl rfl rfl rfl (fun _ => ?_)) | refine WL.step rfl (StepTo.box1 rfl rfl rfl rfl rfl (fun _ => ?_)))
    | ((with_reducible refine WL.isN_alloc ?_); first | refine WL.step rfl (StepTo.allocA rfl rfl rfl rfl (fun _ => ?_)) | refine WL.step rfl (StepTo.alloc1 rfl rfl rfl rfl rfl (fun _ => ?_)))
    | ((with_reducible refine WL.isN_store ?_); first | refine WL.step rfl (StepTo.st1 rfl rfl rfl rfl rfl rfl ?_) | refine WL.step rfl (StepTo.stA rfl rfl rfl rfl rfl rfl rfl ?_) | refine WL.step rfl (StepTo.stR rfl rfl rfl rfl rfl rfl rfl ?_))
    | with_reducible refine WC.block ?_
    | (refine WC.quiet (i := 11) (by kernel_rfl) (by kernel_rfl) ?_)
    | (refine WC.quiet (i := 15) (by kernel_rfl) (by kernel_rfl) ?_)
    | (refine WC.cond rfl (fun hc => ?_) (fun hc => ?_) <;> (try first | (with_reducible replace hc := of_decide_eq_true hc) | (with_reducible replace hc := of_decide_eq_false hc) | (with_reducible replace hc := eqT hc) | (with_reducible replace hc := eqF hc) | (with_reducible replace hc := neT hc) | (with_reducible replace hc := neF hc) | (with_reducible replace hc := noT hc) | (with_reducible replace hc := noF hc)) <;> (try (exfalso; omega))))
    by_cases hLW : L < W
    · rw [Ck.kfin_stale (by omega)] at q3
      simp only at q3
      repeat' (first
    | refine goS ?_
    | ((with_reducible refine WL.isN_bin ?_); first | refine WL.yld rfl (Yld.eqlSame 4 rfl rfl rfl (by kernel_rfl) (by kernel_rfl) rfl rfl (by simp)) ?_ | refine WL.yld rfl binQ ?_)
    | ((with_reducible refine WL.isN_load ?_); first | refine WL.yld rfl loadQ ?_)
    | ((with_reducible refine WL.isN_build ?_); first | refine WL.yld rfl buildQ ?_)
    | ((with_reducible refine WL.isN_call ?_); first | refine WL.step rfl (StepTo.callV (v := .tuple #[.agg Ck.St.zero.cs.toArray, .int .i64 7]) (us := [.pointer (some ⟨bG, 0, none⟩), .string (bs cc), .int .i64 (s.made + W)]) rfl rfl rfl rfl rfl (by kernel_rfl) (fun w hw => q3 w (inp_box hw 1 rfl) (hw.lst 2 kc_len (by omega) rfl)) ?_) | refine WL.yld rfl lenQ ?_)
    | ((with_reducible refine WL.isN_box ?_); first | refine WL.step rfl (StepTo.boxA rfl rfl rfl rfl (fun _ => ?_)) | refine WL.step rfl (StepTo.box1 rfl rfl rfl rfl rfl (fun _ => ?_)))
    | ((with_reducible refine WL.isN_alloc ?_); first | refine WL.step rfl (StepTo.allocA rfl rfl rfl rfl (fun _ => ?_)) | refine WL.step rfl (StepTo.alloc1 rfl rfl rfl rfl rfl (fun _ => ?_)))
    | ((with_reducible refine WL.isN_store ?_); first | refine WL.step rfl (StepTo.st1 rfl rfl rfl rfl rfl rfl ?_) | refine WL.step rfl (StepTo.stA rfl rfl rfl rfl rfl rfl rfl ?_) | refine WL.step rfl (StepTo.stR rfl rfl rfl rfl rfl rfl rfl ?_))
    | with_reducible refine WC.block ?_
    | (refine WC.cond rfl (fun hc => ?_) (fun hc => ?_) <;> (try first | (with_reducible replace hc := of_decide_eq_true hc) | (with_reducible replace hc := of_decide_eq_false hc) | (with_reducible replace hc := eqT hc) | (with_reducible replace hc := eqF hc) | (with_reducible replace hc := neT hc) | (with_reducible replace hc := neF hc) | (with_reducible replace hc := noT hc) | (with_reducible replace hc := noF hc)) <;> (try (exfalso; omega))))
      exact WQ.body (Reads.tmp rfl rfl) fun w' hw' => ⟨rfl, hw'.ext.below⟩
    · rw [Ck.kfin_yes (by omega) (by omega)] at q3
      simp only at q3
      rw [hcs] at q3
      repeat' (first
    | refine goS ?_
    | ((with_reducible refine WL.isN_bin ?_); first | refine WL.yld rfl (Yld.eqlSame 4 rfl rfl rfl (by kernel_rfl) (by kernel_rfl) rfl rfl (by simp)) ?_ | refine WL.yld rfl binQ ?_)
    | ((with_reducible refine WL.isN_load ?_); first | refine WL.yld rfl loadQ ?_)
    | ((with_reducible refine WL.isN_build ?_); first | refine WL.yld rfl buildQ ?_)
    | ((with_reducible refine WL.isN_call ?_); first | refine WL.step rfl (StepTo.callV (v := .tuple #[.agg _, .int .i64 0]) (us := [.pointer (some ⟨bG, 0, none⟩), .string (bs cc), .int .i64 (s.made + W)]) rfl rfl rfl rfl rfl (by kernel_rfl) (fun w hw => q3 w (inp_box hw 1 rfl) (hw.lst 2 kc_len (by omega) rfl)) ?_) | refine WL.yld rfl lenQ ?_)
    | ((with_reducible refine WL.isN_box ?_); first | refine WL.step rfl (StepTo.boxA rfl rfl rfl rfl (fun _ => ?_)) | refine WL.step rfl (StepTo.box1 rfl rfl rfl rfl rfl (fun _ => ?_)))
    | ((with_reducible refine WL.isN_alloc ?_); first | refine WL.step rfl (StepTo.allocA rfl rfl rfl rfl (fun _ => ?_)) | refine WL.step rfl (StepTo.alloc1 rfl rfl rfl rfl rfl (fun _ => ?_)))
    | ((with_reducible refine WL.isN_store ?_); first | refine WL.step rfl (StepTo.st1 rfl rfl rfl rfl rfl rfl ?_) | refine WL.step rfl (StepTo.stA rfl rfl rfl rfl rfl rfl rfl ?_) | refine WL.step rfl (StepTo.stR rfl rfl rfl rfl rfl rfl rfl ?_))
    | with_reducible refine WC.block ?_
    | (refine WC.cond rfl (fun hc => ?_) (fun hc => ?_) <;> (try first | (with_reducible replace hc := of_decide_eq_true hc) | (with_reducible replace hc := of_decide_eq_false hc) | (with_reducible replace hc := eqT hc) | (with_reducible replace hc := eqF hc) | (with_reducible replace hc := neT hc) | (with_reducible replace hc := neF hc) | (with_reducible replace hc := noT hc) | (with_reducible replace hc := noF hc)) <;> (try (exfalso; omega))))
      exact WQ.body (Reads.tmp rfl rfl) fun w' hw' => ⟨rfl, hw'.ext.below⟩
  repeat' (first
    | refine goS ?_
    | ((with_reducible refine WL.isN_bin ?_); first | refine WL.yld rfl (Yld.neqSame 4 rfl rfl rfl (by kernel_rfl) (by kernel_rfl) rfl rfl (by simp [Ck.St.zero, bs_toList])) ?_ | refine WL.yld rfl binQ ?_)
    | ((with_reducible refine WK.isN_bin ?_); first | refine WK.yld rfl (Yld.neqSame 4 rfl rfl rfl (by kernel_rfl) (by kernel_rfl) rfl rfl (by simp [Ck.St.zero, bs_toList])) ?_ | refine WK.yld rfl binQ ?_)
    | ((with_reducible refine WL.isN_load ?_); first | refine WL.yld rfl loadQ ?_)
    | ((with_reducible refine WK.isN_load ?_); first | refine WK.yld rfl loadQ ?_)
    | ((with_reducible refine WL.isN_build ?_); first | refine WL.yld rfl buildQ ?_)
    | ((with_reducible refine WK.isN_build ?_); first | refine WK.yld rfl buildQ ?_)
    | ((with_reducible refine WL.isN_call ?_); first | refine WL.step rfl (StepTo.callV (v := .tuple #[.string (bs cc), .int .i64 0]) (us := [.pointer (some ⟨bG, 0, none⟩), .agg _]) rfl rfl rfl rfl rfl (by kernel_rfl) (fun w hw => q1 w (inp_box hw 0 rfl) (hw.lst 1 kc_len (by omega) rfl)) ?_) | refine WK.step rfl (Qui.call (v := .int .i64 T) (us := [.int .i64 turn, .int .i64 60001]) rfl rfl rfl (by kernel_rfl) (fun w _ => pq2 w)) ?_ | refine WL.step rfl (StepTo.callV (v := .tuple #[.agg Ck.St.zero.cs.toArray, .int .i64 7]) (us := [.pointer (some ⟨bG, 0, none⟩), .string (bs cc), .int .i64 (s.made - 1)]) rfl rfl rfl rfl rfl (by kernel_rfl) (fun w hw => q2 w (inp_box hw 0 rfl) (hw.lst 1 kc_len (by omega) rfl)) ?_) | refine WK.step rfl (Qui.call (v := .int .i64 W) (us := [.int .i64 now, .int .i64 61000]) rfl rfl rfl (by kernel_rfl) (fun w _ => pq3 w)) ?_ | refine WL.yld rfl lenQ ?_)
    | ((with_reducible refine WK.isN_call ?_); first | refine WL.step rfl (StepTo.callV (v := .tuple #[.string (bs cc), .int .i64 0]) (us := [.pointer (some ⟨bG, 0, none⟩), .agg _]) rfl rfl rfl rfl rfl (by kernel_rfl) (fun w hw => q1 w (inp_box hw 0 rfl) (hw.lst 1 kc_len (by omega) rfl)) ?_) | refine WK.step rfl (Qui.call (v := .int .i64 T) (us := [.int .i64 turn, .int .i64 60001]) rfl rfl rfl (by kernel_rfl) (fun w _ => pq2 w)) ?_ | refine WL.step rfl (StepTo.callV (v := .tuple #[.agg Ck.St.zero.cs.toArray, .int .i64 7]) (us := [.pointer (some ⟨bG, 0, none⟩), .string (bs cc), .int .i64 (s.made - 1)]) rfl rfl rfl rfl rfl (by kernel_rfl) (fun w hw => q2 w (inp_box hw 0 rfl) (hw.lst 1 kc_len (by omega) rfl)) ?_) | refine WK.step rfl (Qui.call (v := .int .i64 W) (us := [.int .i64 now, .int .i64 61000]) rfl rfl rfl (by kernel_rfl) (fun w _ => pq3 w)) ?_ | refine WK.yld rfl lenQ ?_)
    | ((with_reducible refine WL.isN_box ?_); first | refine WL.step rfl (StepTo.boxA rfl rfl rfl rfl (fun _ => ?_)) | refine WL.step rfl (StepTo.box1 rfl rfl rfl rfl rfl (fun _ => ?_)))
    | ((with_reducible refine WL.isN_alloc ?_); first | refine WL.step rfl (StepTo.allocA rfl rfl rfl rfl (fun _ => ?_)) | refine WL.step rfl (StepTo.alloc1 rfl rfl rfl rfl rfl (fun _ => ?_)))
    | ((with_reducible refine WL.isN_store ?_); first | refine WL.step rfl (StepTo.st1 rfl rfl rfl rfl rfl rfl ?_) | refine WL.step rfl (StepTo.stA rfl rfl rfl rfl rfl rfl rfl ?_) | refine WL.step rfl (StepTo.stR rfl rfl rfl rfl rfl rfl rfl ?_))
    | with_reducible refine WC.block ?_
    | (refine WC.quiet (i := 11) (by kernel_rfl) (by kernel_rfl) ?_)
    | (refine WC.quiet (i := 15) (by kernel_rfl) (by kernel_rfl) ?_)
    | (refine WC.cond rfl (fun hc => ?_) (fun hc => ?_) <;> (try first | (with_reducible replace hc := of_decide_eq_true hc) | (with_reducible replace hc := of_decide_eq_false hc) | (with_reducible replace hc := eqT hc) | (with_reducible replace hc := eqF hc) | (with_reducible replace hc := neT hc) | (with_reducible replace hc := neF hc) | (with_reducible replace hc := noT hc) | (with_reducible replace hc := noF hc)) <;> (try (exfalso; omega))))
  refine WL.step rfl (StepTo.callP (us := [.pointer (some ⟨bG, 0, none⟩), .string (bs o), .int .i64 (s.made + T)]) (HI := [.box bG 48 [.slice A1 1 c1, .int .i64 0]]) [1] [0, 3] ⟨by decide, rfl⟩ rfl ⟨by decide, rfl⟩ rfl rfl rfl rfl rfl rfl (by kernel_rfl) (fun w hw hS => kturn_w bG A1 1 c1 0 (s.made + T) [k] o hA1 (by omega) rfl w (hw.aloneV (idx := [1, 2]) (C := [.vw A1 1 1 (flat kc [k])]) ⟨by decide, rfl⟩ (by simp [Item.mine]))) ?_)
  rintro v NN ⟨A2, n2, c2, rfl, hA2, hn2, rfl⟩
  obtain rfl : n2 = 2 := hn2
  rw [show (o :: [k]).take 2 = [o, k] from rfl]
  have q5 := fun w hI hL => kread_q bG A2 2 c2 (s.made + T) (s.made + W) [o, k] cc w hI hL (by simp; omega) (by omega) (by omega) (by omega)
  rcases hk2 with hk2 | ⟨hk2, hlt⟩
  · rw [hk2] at q5
    by_cases hLW : L < W
    · rw [Ck.kfin_stale (by omega)] at q5
      simp only at q5
      repeat' (first
    | refine goS ?_
    | ((with_reducible refine WL.isN_bin ?_); first | refine WL.yld rfl (Yld.eqlSame 4 rfl rfl rfl (by kernel_rfl) (by kernel_rfl) rfl rfl (by simp)) ?_ | refine WL.yld rfl binQ ?_)
    | ((with_reducible refine WL.isN_load ?_); first | refine WL.yld rfl loadQ ?_)
    | ((with_reducible refine WL.isN_build ?_); first | refine WL.yld rfl buildQ ?_)
    | ((with_reducible refine WL.isN_call ?_); first | refine WL.step rfl (StepTo.callV (v := .tuple #[.agg Ck.St.zero.cs.toArray, .int .i64 7]) (us := [.pointer (some ⟨bG, 0, none⟩), .string (bs cc), .int .i64 (s.made + W)]) rfl rfl rfl rfl rfl (by kernel_rfl) (fun w hw => q5 w (inp_box hw 0 rfl) (hw.lst 1 kc_len (by omega) rfl)) ?_) | refine WL.yld rfl lenQ ?_)
    | ((with_reducible refine WL.isN_box ?_); first | refine WL.step rfl (StepTo.boxA rfl rfl rfl rfl (fun _ => ?_)) | refine WL.step rfl (StepTo.box1 rfl rfl rfl rfl rfl (fun _ => ?_)))
    | ((with_reducible refine WL.isN_alloc ?_); first | refine WL.step rfl (StepTo.allocA rfl rfl rfl rfl (fun _ => ?_)) | refine WL.step rfl (StepTo.alloc1 rfl rfl rfl rfl rfl (fun _ => ?_)))
    | ((with_reducible refine WL.isN_store ?_); first | refine WL.step rfl (StepTo.st1 rfl rfl rfl rfl rfl rfl ?_) | refine WL.step rfl (StepTo.stA rfl rfl rfl rfl rfl rfl rfl ?_) | refine WL.step rfl (StepTo.stR rfl rfl rfl rfl rfl rfl rfl ?_))
    | with_reducible refine WC.block ?_
    | (refine WC.cond rfl (fun hc => ?_) (fun hc => ?_) <;> (try first | (with_reducible replace hc := of_decide_eq_true hc) | (with_reducible replace hc := of_decide_eq_false hc) | (with_reducible replace hc := eqT hc) | (with_reducible replace hc := eqF hc) | (with_reducible replace hc := neT hc) | (with_reducible replace hc := neF hc) | (with_reducible replace hc := noT hc) | (with_reducible replace hc := noF hc)) <;> (try (exfalso; omega))))
      exact WQ.body (Reads.tmp rfl rfl) fun w' hw' => ⟨rfl, hw'.ext.below⟩
    · rw [Ck.kfin_yes (by omega) (by omega)] at q5
      simp only at q5
      rw [hcs] at q5
      repeat' (first
    | refine goS ?_
    | ((with_reducible refine WL.isN_bin ?_); first | refine WL.yld rfl (Yld.eqlSame 4 rfl rfl rfl (by kernel_rfl) (by kernel_rfl) rfl rfl (by simp)) ?_ | refine WL.yld rfl binQ ?_)
    | ((with_reducible refine WL.isN_load ?_); first | refine WL.yld rfl loadQ ?_)
    | ((with_reducible refine WL.isN_build ?_); first | refine WL.yld rfl buildQ ?_)
    | ((with_reducible refine WL.isN_call ?_); first | refine WL.step rfl (StepTo.callV (v := .tuple #[.agg _, .int .i64 0]) (us := [.pointer (some ⟨bG, 0, none⟩), .string (bs cc), .int .i64 (s.made + W)]) rfl rfl rfl rfl rfl (by kernel_rfl) (fun w hw => q5 w (inp_box hw 0 rfl) (hw.lst 1 kc_len (by omega) rfl)) ?_) | refine WL.yld rfl lenQ ?_)
    | ((with_reducible refine WL.isN_box ?_); first | refine WL.step rfl (StepTo.boxA rfl rfl rfl rfl (fun _ => ?_)) | refine WL.step rfl (StepTo.box1 rfl rfl rfl rfl rfl (fun _ => ?_)))
    | ((with_reducible refine WL.isN_alloc ?_); first | refine WL.step rfl (StepTo.allocA rfl rfl rfl rfl (fun _ => ?_)) | refine WL.step rfl (StepTo.alloc1 rfl rfl rfl rfl rfl (fun _ => ?_)))
    | ((with_reducible refine WL.isN_store ?_); first | refine WL.step rfl (StepTo.st1 rfl rfl rfl rfl rfl rfl ?_) | refine WL.step rfl (StepTo.stA rfl rfl rfl rfl rfl rfl rfl ?_) | refine WL.step rfl (StepTo.stR rfl rfl rfl rfl rfl rfl rfl ?_))
    | with_reducible refine WC.block ?_
    | (refine WC.cond rfl (fun hc => ?_) (fun hc => ?_) <;> (try first | (with_reducible replace hc := of_decide_eq_true hc) | (with_reducible replace hc := of_decide_eq_false hc) | (with_reducible replace hc := eqT hc) | (with_reducible replace hc := eqF hc) | (with_reducible replace hc := neT hc) | (with_reducible replace hc := neF hc) | (with_reducible replace hc := noT hc) | (with_reducible replace hc := noF hc)) <;> (try (exfalso; omega))))
      exact WQ.body (Reads.tmp rfl rfl) fun w' hw' => ⟨rfl, hw'.ext.below⟩
  · rw [hk2] at q5
    simp only at q5
    have hLW : L < W := by omega
    repeat' (first
    | refine goS ?_
    | ((with_reducible refine WL.isN_bin ?_); first | refine WL.yld rfl binQ ?_)
    | ((with_reducible refine WL.isN_load ?_); first | refine WL.yld rfl loadQ ?_)
    | ((with_reducible refine WL.isN_build ?_); first | refine WL.yld rfl buildQ ?_)
    | ((with_reducible refine WL.isN_call ?_); first | refine WL.step rfl (StepTo.callV (v := .tuple #[.agg Ck.St.zero.cs.toArray, .int .i64 5]) (us := [.pointer (some ⟨bG, 0, none⟩), .string (bs cc), .int .i64 (s.made + W)]) rfl rfl rfl rfl rfl (by kernel_rfl) (fun w hw => q5 w (inp_box hw 0 rfl) (hw.lst 1 kc_len (by omega) rfl)) ?_) | refine WL.yld rfl lenQ ?_)
    | ((with_reducible refine WL.isN_box ?_); first | refine WL.step rfl (StepTo.boxA rfl rfl rfl rfl (fun _ => ?_)) | refine WL.step rfl (StepTo.box1 rfl rfl rfl rfl rfl (fun _ => ?_)))
    | ((with_reducible refine WL.isN_alloc ?_); first | refine WL.step rfl (StepTo.allocA rfl rfl rfl rfl (fun _ => ?_)) | refine WL.step rfl (StepTo.alloc1 rfl rfl rfl rfl rfl (fun _ => ?_)))
    | ((with_reducible refine WL.isN_store ?_); first | refine WL.step rfl (StepTo.st1 rfl rfl rfl rfl rfl rfl ?_) | refine WL.step rfl (StepTo.stA rfl rfl rfl rfl rfl rfl rfl ?_) | refine WL.step rfl (StepTo.stR rfl rfl rfl rfl rfl rfl rfl ?_))
    | with_reducible refine WC.block ?_
    | (refine WC.cond rfl (fun hc => ?_) (fun hc => ?_) <;> (try first | (with_reducible replace hc := of_decide_eq_true hc) | (with_reducible replace hc := of_decide_eq_false hc) | (with_reducible replace hc := eqT hc) | (with_reducible replace hc := eqF hc) | (with_reducible replace hc := neT hc) | (with_reducible replace hc := neF hc) | (with_reducible replace hc := noT hc) | (with_reducible replace hc := noF hc)) <;> (try (exfalso; omega))))
    exact WQ.body (Reads.tmp rfl rfl) fun w' hw' => ⟨by rw [decide_eq_true (by omega)], hw'.ext.below⟩
end Go.Proofs.Ytheilikelcgdmaa
