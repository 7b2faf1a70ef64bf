/- What is built is read; the example; the laws CookieBuilds and CookieBack. -/
import Derived.Test.YtheilikelcgdmaaCkT
namespace Go.Proofs.Ytheilikelcgdmaa
open Go.RowKit Go.IntWalk
set_option linter.unusedVariables false
set_option linter.unusedSectionVars false
set_option maxRecDepth 100000

section
variable {P : Program} {w0 : World} {D : Nat → Prop} {n : Nat} [Dfr] {τ : Tm} {H : List Item} {o : Oper}
theorem Yld.eqlSame {T u : Nat} {x y : Operand} {xs ys : List Value} {r : Bool} (d : Nat) (ho : o.op = .binOp .eql T x y u) (hx : evl τ x = some (.agg xs.toArray)) (hy : evl τ y = some (.agg ys.toArray)) (hg : P.eqGuardType P.depth T = false) (hk : eqOkB P d T = true) (hd : Nat.ble d 10000 = true)
    (hr : eqTy P d T (.agg xs.toArray) (.agg ys.toArray) = some r) (e : r = true) : Yld P w0 D n o τ H (.bool true) := e ▸ Yld.eqlA d ho hx hy hg hk hd hr
theorem Yld.neqSame {T u : Nat} {x y : Operand} {xs ys : List Value} {r : Bool} (d : Nat) (ho : o.op = .binOp .neq T x y u) (hx : evl τ x = some (.agg xs.toArray)) (hy : evl τ y = some (.agg ys.toArray)) (hg : P.eqGuardType P.depth T = false) (hk : eqOkB P d T = true) (hd : Nat.ble d 10000 = true)
    (hr : eqTy P d T (.agg xs.toArray) (.agg ys.toArray) = some r) (e : r = true) : Yld P w0 D n o τ H (.bool false) := by
  subst e
  exact Yld.neqA d ho hx hy hg hk hd hr
end
namespace Ck
theorem read_build {k : List UInt8} {s : St} (hs : s.Ok) (hr : right s = true) : read k (Hm.sum k (bytes s) ++ bytes s) = (s, 0) := by
  have hl := Hm.sum_len k (bytes s)
  have hbl := bytes_len s
  have hd : (Hm.sum k (bytes s) ++ bytes s).drop 32 = bytes s := cut_end hl
  have ht : (Hm.sum k (bytes s) ++ bytes s).take 32 = Hm.sum k (bytes s) := by rw [List.take_append, List.take_of_length_le (by omega), hl]; simp
  have hp := parse_bytes hs hr
  have hz := (bytes_parse (b := bytes s) (by omega) (by rw [hp]; exact hr)).1 (by rw [hp])
  rw [read, if_neg (by rw [List.length_append]; omega), hd, ht, if_neg (by simp), if_neg (by omega), hp, if_neg (by simp [hz, hr])]
theorem read_less {k c : List UInt8} (h : c.length < 32) : read k c = (St.zero, 3) := by rw [read, if_pos h]
theorem build_yes {k : List UInt8} {s : St} (hr : right s = true) : build k s = (Hm.sum k (bytes s) ++ bytes s, 0) := by rw [build, if_pos hr]
theorem build_no {k : List UInt8} {s : St} (hr : right s = false) : build k s = ([], 1) := by rw [build, hr]; rfl
theorem plain_ok : plain.Ok := ⟨by decide, by decide, by decide, by decide, by decide, by decide, by decide, by decide, by decide, by decide, by decide⟩
theorem plain_right : right plain = true := by decide
end Ck
theorem eqI_self {x : Int} : Value.bool (x == x) = .bool true := by simp
theorem eqS_self {x : List UInt8} : Value.bool (x == x) = .bool true := by simp
theorem eqB_self {x : Bool} : Value.bool (x == x) = .bool true := by simp
set_option maxHeartbeats 4000000 in
theorem ckshown_q (w : World) : Calls Try.prog 9 #[] w fun e w' => e = .returned (.bool true) ∧ Below w.heap.size w w' := by
  have hb := fun w => build_q [107, 101, 121] (by simp) Ck.plain Ck.plain_ok (by simp [Ck.plain]) w
  rw [Ck.build_yes Ck.plain_right] at hb
  have hsl := Hm.sum_len [107, 101, 121] (Ck.bytes Ck.plain)
  have hbl := Ck.bytes_len Ck.plain
  have hrb := Ck.read_build (k := [107, 101, 121]) Ck.plain_ok Ck.plain_right
  obtain ⟨c, hc⟩ : ∃ c, Hm.sum [107, 101, 121] (Ck.bytes Ck.plain) ++ Ck.bytes Ck.plain = c := ⟨_, rfl⟩
  have hcl : c.length = 89 := by rw [← hc, List.length_append, hsl, hbl]; rfl
  rw [hc] at hb hrb
  clear hsl hbl hc
  have h1 := fun w => read_q [107, 101, 121] [120] (by simp) (by simp) w
  rw [Ck.read_less (by simp)] at h1
  have h2 := fun w => read_q [107, 101, 121] c (by simp) (by omega) w
  rw [hrb] at h2
  have h3 := fun (gk : Nat) (w : World) (hI : InpAt w gk 0 [.slice none 0 0, .int .i64 0]) => kread_q gk none 0 0 0 0 [] [120] w hI Lst.nil_ (by simp) (by simp) (by omega) (by omega)
  simp only at hb h1 h2
  refine enterW (fun _ => False) _ Try.func9 rfl (by simp only [Try.ntmps9, List.length_cons, List.length_nil, Nat.reduceAdd, Nat.reduceSub]; rfl) ?_
  repeat' (first
    | refine goS ?_
    | ((with_reducible refine WL.isN_bin ?_); first | refine WL.yld rfl (Yld.eqlSame 4 rfl rfl rfl (by kernel_rfl) (by kernel_rfl) rfl rfl (by simp [Ck.plain])) ?_ | refine WL.yld rfl binQ ?_)
    | ((with_reducible refine WK.isN_bin ?_); first | refine WK.yld rfl (Yld.eqlSame 4 rfl rfl rfl (by kernel_rfl) (by kernel_rfl) rfl rfl (by simp [Ck.plain])) ?_ | refine WK.yld rfl binQ ?_)
    | ((with_reducible refine WL.isN_load ?_); first | refine WL.yld rfl loadQ ?_)
    | ((with_reducible refine WK.isN_load ?_); first | refine WK.yld rfl loadQ ?_)
    | ((with_reducible refine WL.isN_build ?_); first | refine WL.yld rfl buildQ ?_)
    | ((with_reducible refine WK.isN_build ?_); first | refine WK.yld rfl buildQ ?_)
    | ((with_reducible refine WL.isN_call ?_); first | refine WL.step rfl (StepTo.callV (v := .agg Ck.plain.cs.toArray) (us := []) rfl rfl rfl rfl rfl (by kernel_rfl) (fun w hw => plain_q w) ?_) | refine WL.step rfl (StepTo.callV (v := .tuple #[.string (bs c), .int .i64 0]) (us := [.string (bs [107, 101, 121]), .agg Ck.plain.cs.toArray]) rfl rfl rfl rfl rfl (by kernel_rfl) (fun w hw => hb w) ?_) | refine WL.step rfl (StepTo.callV (v := .tuple #[.agg Ck.St.zero.cs.toArray, .int .i64 3]) (us := [.string (bs [107, 101, 121]), .string (bs [120])]) rfl rfl rfl rfl rfl (by kernel_rfl) (fun w hw => h1 w) ?_) | refine WL.step rfl (StepTo.callV (v := .tuple #[.agg Ck.plain.cs.toArray, .int .i64 0]) (us := [.string (bs [107, 101, 121]), .string (bs c)]) rfl rfl rfl rfl rfl (by kernel_rfl) (fun w hw => h2 w) ?_) | refine WL.step rfl (StepTo.callV (v := .tuple #[.agg Ck.St.zero.cs.toArray, .int .i64 8]) (us := [.pointer (some ⟨_, 0, none⟩), .string (bs [120]), .int .i64 0]) rfl rfl rfl rfl rfl (by kernel_rfl) (fun w hw => h3 _ w (inp_box hw 0 rfl)) ?_) | refine WK.yld rfl (Yld.lenB rfl rfl rfl) ?_ | refine WK.step rfl (Qui.call (v := .agg Ck.plain.cs.toArray) (us := []) rfl rfl rfl (by kernel_rfl) (fun w _ => plain_q w)) ?_ | refine WL.yld rfl lenQ ?_)
    | ((with_reducible refine WK.isN_call ?_); first | refine WL.step rfl (StepTo.callV (v := .agg Ck.plain.cs.toArray) (us := []) rfl rfl rfl rfl rfl (by kernel_rfl) (fun w hw => plain_q w) ?_) | refine WL.step rfl (StepTo.callV (v := .tuple #[.string (bs c), .int .i64 0]) (us := [.string (bs [107, 101, 121]), .agg Ck.plain.cs.toArray]) rfl rfl rfl rfl rfl (by kernel_rfl) (fun w hw => hb w) ?_) | refine WL.step rfl (StepTo.callV (v := .tuple #[.agg Ck.St.zero.cs.toArray, .int .i64 3]) (us := [.string (bs [107, 101, 121]), .string (bs [120])]) rfl rfl rfl rfl rfl (by kernel_rfl) (fun w hw => h1 w) ?_) | refine WL.step rfl (StepTo.callV (v := .tuple #[.agg Ck.plain.cs.toArray, .int .i64 0]) (us := [.string (bs [107, 101, 121]), .string (bs c)]) rfl rfl rfl rfl rfl (by kernel_rfl) (fun w hw => h2 w) ?_) | refine WL.step rfl (StepTo.callV (v := .tuple #[.agg Ck.St.zero.cs.toArray, .int .i64 8]) (us := [.pointer (some ⟨_, 0, none⟩), .string (bs [120]), .int .i64 0]) rfl rfl rfl rfl rfl (by kernel_rfl) (fun w hw => h3 _ w (inp_box hw 0 rfl)) ?_) | refine WK.yld rfl (Yld.lenB rfl rfl rfl) ?_ | refine WK.step rfl (Qui.call (v := .agg Ck.plain.cs.toArray) (us := []) rfl rfl rfl (by kernel_rfl) (fun w _ => plain_q w)) ?_ | refine WK.yld rfl lenQ ?_)
    | ((with_reducible refine WL.isN_box ?_); first | refine WL.step rfl (StepTo.boxA rfl rfl rfl rfl (fun _ => ?_)) | refine WL.step rfl (StepTo.box1 rfl rfl rfl rfl rfl (fun _ => ?_)))
    | ((with_reducible refine WL.isN_alloc ?_); first | refine WL.step rfl (StepTo.allocA rfl rfl rfl rfl (fun _ => ?_)) | refine WL.step rfl (StepTo.alloc1 rfl rfl rfl rfl rfl (fun _ => ?_)))
    | ((with_reducible refine WL.isN_store ?_); first | refine WL.step rfl (StepTo.st1 rfl rfl rfl rfl rfl rfl ?_) | refine WL.step rfl (StepTo.stA rfl rfl rfl rfl rfl rfl rfl ?_) | refine WL.step rfl (StepTo.stR rfl rfl rfl rfl rfl rfl rfl ?_))
    | with_reducible refine WC.block ?_
    | (refine WC.quiet (i := 5) (by kernel_rfl) (by kernel_rfl) ?_)
    | (refine WC.cond rfl (fun hc => ?_) (fun hc => ?_) <;> (try first | (with_reducible replace hc := of_decide_eq_true hc) | (with_reducible replace hc := of_decide_eq_false hc) | (with_reducible replace hc := eqT hc) | (with_reducible replace hc := eqF hc) | (with_reducible replace hc := neT hc) | (with_reducible replace hc := neF hc) | (with_reducible replace hc := noT hc) | (with_reducible replace hc := noF hc)) <;> (try (exfalso; omega))))
  exact WQ.body (Reads.tmp rfl rfl) fun w' hw' => ⟨rfl, hw'.ext.below⟩

set_option maxHeartbeats 4000000 in
theorem cookieBuilds_walk (k0 : ByteArray) (s : Ck.St) (c0 : ByteArray) (w : World) (h0 : k0.size ≤ maxLen) (h1 : s.Ok ∧ s.peer.length ≤ maxLen ∧ (-9223372036854775808 ≤ s.made ∧ s.made ≤ 9223372036854775807) ∧ (-9223372036854775808 ≤ s.life ∧ s.life ≤ 9223372036854775807)) (h2 : c0.size ≤ maxLen) :
    Calls Try.prog 3 #[.string k0, .agg s.cs.toArray, .string c0] w fun e w' => e = .returned (.bool true) ∧ Below w.heap.size w w' := by
  obtain ⟨k, rfl⟩ : ∃ s, k0 = bs s := ⟨_, (bs_eta k0).symm⟩
  obtain ⟨c, rfl⟩ : ∃ s, c0 = bs s := ⟨_, (bs_eta c0).symm⟩
  clear h0 h2
  obtain ⟨hs, hp, _, _⟩ := h1
  have sq := fun w => short_q s hp w
  by_cases g0 : s.peer.length ≤ 300
  case neg =>
    rw [decide_eq_false g0] at sq
    refine enterW (fun _ => False) _ Try.func3 rfl (by simp only [Try.ntmps3, List.length_cons, List.length_nil, Nat.reduceAdd, Nat.reduceSub]; rfl) ?_
    repeat' (first
    | refine goS ?_
    | ((with_reducible refine WL.isN_bin ?_); first | refine WL.yld rfl binQ ?_)
    | ((with_reducible refine WL.isN_load ?_); first | refine WL.yld rfl loadQ ?_)
    | ((with_reducible refine WL.isN_call ?_); first | refine WL.step rfl (StepTo.callV (v := .bool true) (us := []) rfl rfl rfl rfl rfl (by kernel_rfl) (fun w hw => ckshown_q w) ?_) | refine WL.step rfl (StepTo.callV (v := .bool false) (us := [.agg s.cs.toArray]) rfl rfl rfl rfl rfl (by kernel_rfl) (fun w hw => sq w) ?_) | refine WL.yld rfl (Yld.lenB rfl rfl rfl) ?_ | refine WL.yld rfl lenQ ?_)
    | ((with_reducible refine WL.isN_box ?_); first | refine WL.step rfl (StepTo.boxA rfl rfl rfl rfl (fun _ => ?_)) | refine WL.step rfl (StepTo.box1 rfl rfl rfl rfl rfl (fun _ => ?_)))
    | ((with_reducible refine WL.isN_alloc ?_); first | refine WL.step rfl (StepTo.allocA rfl rfl rfl rfl (fun _ => ?_)) | refine WL.step rfl (StepTo.alloc1 rfl rfl rfl rfl rfl (fun _ => ?_)))
    | ((with_reducible refine WL.isN_store ?_); first | refine WL.step rfl (StepTo.st1 rfl rfl rfl rfl rfl rfl ?_) | refine WL.step rfl (StepTo.stA rfl rfl rfl rfl rfl rfl rfl ?_) | refine WL.step rfl (StepTo.stR rfl rfl rfl rfl rfl rfl rfl ?_))
    | with_reducible refine WC.block ?_
    | (refine WC.cond rfl (fun hc => ?_) (fun hc => ?_) <;> (try first | (with_reducible replace hc := of_decide_eq_true hc) | (with_reducible replace hc := of_decide_eq_false hc) | (with_reducible replace hc := eqT hc) | (with_reducible replace hc := eqF hc) | (with_reducible replace hc := neT hc) | (with_reducible replace hc := neF hc) | (with_reducible replace hc := noT hc) | (with_reducible replace hc := noF hc)) <;> (try (exfalso; omega))))
    exact WQ.body (Reads.tmp rfl rfl) fun w' hw' => ⟨rfl, hw'.ext.below⟩
  rw [decide_eq_true g0] at sq
  by_cases g1 : k.length ≤ 300
  case neg =>
    refine enterW (fun _ => False) _ Try.func3 rfl (by simp only [Try.ntmps3, List.length_cons, List.length_nil, Nat.reduceAdd, Nat.reduceSub]; rfl) ?_
    repeat' (first
    | refine goS ?_
    | ((with_reducible refine WL.isN_bin ?_); first | refine WL.yld rfl binQ ?_)
    | ((with_reducible refine WL.isN_load ?_); first | refine WL.yld rfl loadQ ?_)
    | ((with_reducible refine WL.isN_call ?_); first | refine WL.step rfl (StepTo.callV (v := .bool true) (us := []) rfl rfl rfl rfl rfl (by kernel_rfl) (fun w hw => ckshown_q w) ?_) | refine WL.step rfl (StepTo.callV (v := .bool true) (us := [.agg s.cs.toArray]) rfl rfl rfl rfl rfl (by kernel_rfl) (fun w hw => sq w) ?_) | refine WL.yld rfl (Yld.lenB rfl rfl rfl) ?_ | refine WL.yld rfl lenQ ?_)
    | ((with_reducible refine WL.isN_box ?_); first | refine WL.step rfl (StepTo.boxA rfl rfl rfl rfl (fun _ => ?_)) | refine WL.step rfl (StepTo.box1 rfl rfl rfl rfl rfl (fun _ => ?_)))
    | ((with_reducible refine WL.isN_alloc ?_); first | refine WL.step rfl (StepTo.allocA rfl rfl rfl rfl (fun _ => ?_)) | refine WL.step rfl (StepTo.alloc1 rfl rfl rfl rfl rfl (fun _ => ?_)))
    | ((with_reducible refine WL.isN_store ?_); first | refine WL.step rfl (StepTo.st1 rfl rfl rfl rfl rfl rfl ?_) | refine WL.step rfl (StepTo.stA rfl rfl rfl rfl rfl rfl rfl ?_) | refine WL.step rfl (StepTo.stR rfl rfl rfl rfl rfl rfl rfl ?_))
    | with_reducible refine WC.block ?_
    | (refine WC.cond rfl (fun hc => ?_) (fun hc => ?_) <;> (try first | (with_reducible replace hc := of_decide_eq_true hc) | (with_reducible replace hc := of_decide_eq_false hc) | (with_reducible replace hc := eqT hc) | (with_reducible replace hc := eqF hc) | (with_reducible replace hc := neT hc) | (with_reducible replace hc := neF hc) | (with_reducible replace hc := noT hc) | (with_reducible replace hc := noF hc)) <;> (try (exfalso; omega))))
    exact WQ.body (Reads.tmp rfl rfl) fun w' hw' => ⟨rfl, hw'.ext.below⟩
  by_cases g2 : c.length ≤ 500
  case neg =>
    refine enterW (fun _ => False) _ Try.func3 rfl (by simp only [Try.ntmps3, List.length_cons, List.length_nil, Nat.reduceAdd, Nat.reduceSub]; rfl) ?_
    repeat' (first
    | refine goS ?_
    | ((with_reducible refine WL.isN_bin ?_); first | refine WL.yld rfl binQ ?_)
    | ((with_reducible refine WL.isN_load ?_); first | refine WL.yld rfl loadQ ?_)
    | ((with_reducible refine WL.isN_call ?_); first | refine WL.step rfl (StepTo.callV (v := .bool true) (us := []) rfl rfl rfl rfl rfl (by kernel_rfl) (fun w hw => ckshown_q w) ?_) | refine WL.step rfl (StepTo.callV (v := .bool true) (us := [.agg s.cs.toArray]) rfl rfl rfl rfl rfl (by kernel_rfl) (fun w hw => sq w) ?_) | refine WL.yld rfl (Yld.lenB rfl rfl rfl) ?_ | refine WL.yld rfl lenQ ?_)
    | ((with_reducible refine WL.isN_box ?_); first | refine WL.step rfl (StepTo.boxA rfl rfl rfl rfl (fun _ => ?_)) | refine WL.step rfl (StepTo.box1 rfl rfl rfl rfl rfl (fun _ => ?_)))
    | ((with_reducible refine WL.isN_alloc ?_); first | refine WL.step rfl (StepTo.allocA rfl rfl rfl rfl (fun _ => ?_)) | refine WL.step rfl (StepTo.alloc1 rfl rfl rfl rfl rfl (fun _ => ?_)))
    | ((with_reducible refine WL.isN_store ?_); first | refine WL.step rfl (StepTo.st1 rfl rfl rfl rfl rfl rfl ?_) | refine WL.step rfl (StepTo.stA rfl rfl rfl rfl rfl rfl rfl ?_) | refine WL.step rfl (StepTo.stR rfl rfl rfl rfl rfl rfl rfl ?_))
    | with_reducible refine WC.block ?_
    | (refine WC.cond rfl (fun hc => ?_) (fun hc => ?_) <;> (try first | (with_reducible replace hc := of_decide_eq_true hc) | (with_reducible replace hc := of_decide_eq_false hc) | (with_reducible replace hc := eqT hc) | (with_reducible replace hc := eqF hc) | (with_reducible replace hc := neT hc) | (with_reducible replace hc := neF hc) | (with_reducible replace hc := noT hc) | (with_reducible replace hc := noF hc)) <;> (try (exfalso; omega))))
    exact WQ.body (Reads.tmp rfl rfl) fun w' hw' => ⟨rfl, hw'.ext.below⟩
  have q1 := fun w => build_q k (by omega) s hs (by omega) w
  have q2 := fun w => rbuild_q k (by omega) s hs (by omega) w
  have q3 := fun w => read_q k c (by omega) (by omega) w
  have q4 := fun w => rread_q k c (by omega) (by omega) w
  have q5 := fun w => rhm_q k c (by omega) (by omega) w
  have hZ := Hm.sum_len k c
  generalize Hm.sum k c = Z at *
  have q6 := fun w => read_q k (Z ++ c) (by omega) (by rw [List.length_append]; omega) w
  have q7 := fun w => rread_q k (Z ++ c) (by omega) (by rw [List.length_append]; omega) w
  have q8 := fun w => ckright_q s hs (by omega) w
  have q9 := fun w => ckrright_q s hs (by omega) w
  have f1 := (Ck.read_facts k c (by omega)).1
  generalize Ck.build k s = B at *
  generalize Ck.read k c = X at *
  generalize Ck.read k (Z ++ c) = U at *
  generalize Ck.right s = R at *
  obtain ⟨b, e⟩ := B
  obtain ⟨x, g⟩ := X
  obtain ⟨u, i⟩ := U
  simp only at q1 q2 q3 q4 q6 q7
  refine enterW (fun _ => False) _ Try.func3 rfl (by simp only [Try.ntmps3, List.length_cons, List.length_nil, Nat.reduceAdd, Nat.reduceSub]; rfl) ?_
  repeat' (first
    | refine goS ?_
    | ((with_reducible refine WL.isN_bin ?_); first | refine WL.yld rfl (Yld.concatS rfl rfl rfl (by omega)) ?_ | refine WL.yld rfl ((Yld.eqS rfl rfl rfl).as eqS_self) ?_ | refine WL.yld rfl ((Yld.pure rfl rfl).as eqI_self) ?_ | refine WL.yld rfl ((Yld.pure rfl rfl).as eqB_self) ?_ | refine WL.yld rfl (Yld.eqlSame 4 rfl rfl rfl (by kernel_rfl) (by kernel_rfl) rfl rfl (by simp)) ?_ | refine WL.yld rfl binQ ?_)
    | ((with_reducible refine WK.isN_bin ?_); first | refine WK.yld rfl (Yld.concatS rfl rfl rfl (by omega)) ?_ | refine WK.yld rfl ((Yld.eqS rfl rfl rfl).as eqS_self) ?_ | refine WK.yld rfl ((Yld.pure rfl rfl).as eqI_self) ?_ | refine WK.yld rfl ((Yld.pure rfl rfl).as eqB_self) ?_ | refine WK.yld rfl (Yld.eqlSame 4 rfl rfl rfl (by kernel_rfl) (by kernel_rfl) rfl rfl (by simp)) ?_ | refine WK.yld rfl binQ ?_)
    | ((with_reducible refine WL.isN_load ?_); first | refine WL.yld rfl loadQ ?_)
    | ((with_reducible refine WK.isN_load ?_); first | refine WK.yld rfl loadQ ?_)
    | ((with_reducible refine WL.isN_call ?_); first | refine WL.step rfl (StepTo.callV (v := .bool true) (us := []) rfl rfl rfl rfl rfl (by kernel_rfl) (fun w hw => ckshown_q w) ?_) | refine WL.step rfl (StepTo.callV (v := .bool true) (us := [.agg s.cs.toArray]) rfl rfl rfl rfl rfl (by kernel_rfl) (fun w hw => sq w) ?_) | refine WL.yld rfl (Yld.lenB rfl rfl rfl) ?_ | refine WL.step rfl (StepTo.callV (v := .tuple #[.string (bs b), .int .i64 e]) (us := [.string (bs k), .agg s.cs.toArray]) rfl rfl rfl rfl rfl (by kernel_rfl) (fun w hw => q1 w) ?_) | refine WL.step rfl (StepTo.callV (v := .agg s.cs.toArray) (us := [.agg s.cs.toArray]) rfl rfl rfl rfl rfl (by kernel_rfl) (fun w hw => as_q s w) ?_) | refine WL.step rfl (StepTo.callV (v := .tuple #[.string (bs b), .int .i64 e]) (us := [.string (bs k), .agg s.cs.toArray]) rfl rfl rfl rfl rfl (by kernel_rfl) (fun w hw => q2 w) ?_) | refine WL.step rfl (StepTo.callV (v := .tuple #[.agg x.cs.toArray, .int .i64 g]) (us := [.string (bs k), .string (bs c)]) rfl rfl rfl rfl rfl (by kernel_rfl) (fun w hw => q3 w) ?_) | refine WL.step rfl (StepTo.callV (v := .tuple #[.agg x.cs.toArray, .int .i64 g]) (us := [.string (bs k), .string (bs c)]) rfl rfl rfl rfl rfl (by kernel_rfl) (fun w hw => q4 w) ?_) | refine WL.step rfl (StepTo.callV (v := .string (bs Z)) (us := [.string (bs k), .string (bs c)]) rfl rfl rfl rfl rfl (by kernel_rfl) (fun w hw => q5 w) ?_) | refine WL.step rfl (StepTo.callV (v := .tuple #[.agg u.cs.toArray, .int .i64 i]) (us := [.string (bs k), .string (bs (Z ++ c))]) rfl rfl rfl rfl rfl (by kernel_rfl) (fun w hw => q6 w) ?_) | refine WL.step rfl (StepTo.callV (v := .tuple #[.agg u.cs.toArray, .int .i64 i]) (us := [.string (bs k), .string (bs (Z ++ c))]) rfl rfl rfl rfl rfl (by kernel_rfl) (fun w hw => q7 w) ?_) | refine WK.step rfl (Qui.call (v := .bool R) (us := [.agg s.cs.toArray]) rfl rfl rfl (by kernel_rfl) (fun w _ => q8 w)) ?_ | refine WK.step rfl (Qui.call (v := .bool R) (us := [.agg s.cs.toArray]) rfl rfl rfl (by kernel_rfl) (fun w _ => q9 w)) ?_ | refine WK.step rfl (Qui.call (v := .agg s.cs.toArray) (us := [.agg s.cs.toArray]) rfl rfl rfl (by kernel_rfl) (fun w _ => as_q s w)) ?_ | refine WK.step rfl (Qui.call (v := .agg x.cs.toArray) (us := [.agg x.cs.toArray]) rfl rfl rfl (by kernel_rfl) (fun w _ => as_q x w)) ?_ | refine WK.step rfl (Qui.call (v := .agg u.cs.toArray) (us := [.agg u.cs.toArray]) rfl rfl rfl (by kernel_rfl) (fun w _ => as_q u w)) ?_ | refine WL.yld rfl lenQ ?_)
    | ((with_reducible refine WK.isN_call ?_); first | refine WL.step rfl (StepTo.callV (v := .bool true) (us := []) rfl rfl rfl rfl rfl (by kernel_rfl) (fun w hw => ckshown_q w) ?_) | refine WL.step rfl (StepTo.callV (v := .bool true) (us := [.agg s.cs.toArray]) rfl rfl rfl rfl rfl (by kernel_rfl) (fun w hw => sq w) ?_) | refine WL.yld rfl (Yld.lenB rfl rfl rfl) ?_ | refine WL.step rfl (StepTo.callV (v := .tuple #[.string (bs b), .int .i64 e]) (us := [.string (bs k), .agg s.cs.toArray]) rfl rfl rfl rfl rfl (by kernel_rfl) (fun w hw => q1 w) ?_) | refine WL.step rfl (StepTo.callV (v := .agg s.cs.toArray) (us := [.agg s.cs.toArray]) rfl rfl rfl rfl rfl (by kernel_rfl) (fun w hw => as_q s w) ?_) | refine WL.step rfl (StepTo.callV (v := .tuple #[.string (bs b), .int .i64 e]) (us := [.string (bs k), .agg s.cs.toArray]) rfl rfl rfl rfl rfl (by kernel_rfl) (fun w hw => q2 w) ?_) | refine WL.step rfl (StepTo.callV (v := .tuple #[.agg x.cs.toArray, .int .i64 g]) (us := [.string (bs k), .string (bs c)]) rfl rfl rfl rfl rfl (by kernel_rfl) (fun w hw => q3 w) ?_) | refine WL.step rfl (StepTo.callV (v := .tuple #[.agg x.cs.toArray, .int .i64 g]) (us := [.string (bs k), .string (bs c)]) rfl rfl rfl rfl rfl (by kernel_rfl) (fun w hw => q4 w) ?_) | refine WL.step rfl (StepTo.callV (v := .string (bs Z)) (us := [.string (bs k), .string (bs c)]) rfl rfl rfl rfl rfl (by kernel_rfl) (fun w hw => q5 w) ?_) | refine WL.step rfl (StepTo.callV (v := .tuple #[.agg u.cs.toArray, .int .i64 i]) (us := [.string (bs k), .string (bs (Z ++ c))]) rfl rfl rfl rfl rfl (by kernel_rfl) (fun w hw => q6 w) ?_) | refine WL.step rfl (StepTo.callV (v := .tuple #[.agg u.cs.toArray, .int .i64 i]) (us := [.string (bs k), .string (bs (Z ++ c))]) rfl rfl rfl rfl rfl (by kernel_rfl) (fun w hw => q7 w) ?_) | refine WK.step rfl (Qui.call (v := .bool R) (us := [.agg s.cs.toArray]) rfl rfl rfl (by kernel_rfl) (fun w _ => q8 w)) ?_ | refine WK.step rfl (Qui.call (v := .bool R) (us := [.agg s.cs.toArray]) rfl rfl rfl (by kernel_rfl) (fun w _ => q9 w)) ?_ | refine WK.step rfl (Qui.call (v := .agg s.cs.toArray) (us := [.agg s.cs.toArray]) rfl rfl rfl (by kernel_rfl) (fun w _ => as_q s w)) ?_ | refine WK.step rfl (Qui.call (v := .agg x.cs.toArray) (us := [.agg x.cs.toArray]) rfl rfl rfl (by kernel_rfl) (fun w _ => as_q x w)) ?_ | refine WK.step rfl (Qui.call (v := .agg u.cs.toArray) (us := [.agg u.cs.toArray]) rfl rfl rfl (by kernel_rfl) (fun w _ => as_q u w)) ?_ | refine WK.yld rfl lenQ ?_)
    | ((with_reducible refine WL.isN_box ?_); first | refine WL.step rfl (StepTo.boxA rfl rfl rfl rfl (fun _ => ?_)) | refine WL.step rfl (StepTo.box1 rfl rfl rfl rfl rfl (fun _ => ?_)))
    | ((with_reducible refine WL.isN_alloc ?_); first | refine WL.step rfl (StepTo.allocA rfl rfl rfl rfl (fun _ => ?_)) | refine WL.step rfl (StepTo.alloc1 rfl rfl rfl rfl rfl (fun _ => ?_)))
    | ((with_reducible refine WL.isN_store ?_); first | refine WL.step rfl (StepTo.st1 rfl rfl rfl rfl rfl rfl ?_) | refine WL.step rfl (StepTo.stA rfl rfl rfl rfl rfl rfl rfl ?_) | refine WL.step rfl (StepTo.stR rfl rfl rfl rfl rfl rfl rfl ?_))
    | with_reducible refine WC.block ?_
    | (refine WC.quiet (i := 12) (by kernel_rfl) (by kernel_rfl) ?_)
    | (refine WC.cond rfl (fun hc => ?_) (fun hc => ?_) <;> (try first | (with_reducible replace hc := of_decide_eq_true hc) | (with_reducible replace hc := of_decide_eq_false hc) | (with_reducible replace hc := eqT hc) | (with_reducible replace hc := eqF hc) | (with_reducible replace hc := neT hc) | (with_reducible replace hc := neF hc) | (with_reducible replace hc := noT hc) | (with_reducible replace hc := noF hc)) <;> (try (exfalso; omega))))
  exact WQ.body (Reads.tmp rfl rfl) fun w' hw' => ⟨rfl, hw'.ext.below⟩
end Go.Proofs.Ytheilikelcgdmaa
