/- The state of a cookie, of the program. -/
import Derived.Test.YtheilikelcgdmaaCkB
namespace Go.Proofs.Ytheilikelcgdmaa
open Go.RowKit Go.IntWalk
set_option linter.unusedVariables false
set_option linter.unusedSectionVars false
set_option maxRecDepth 100000

/-- What is read from, and how far. -/
abbrev TkH (gb ga : Nat) (b : List UInt8) (a : Nat) : List Item := [.box gb 9 [.string (bs b)], .box ga 3 [.int .i64 (a : Nat)]]
set_option maxHeartbeats 4000000 in
theorem take_w (gb ga : Nat) (b : List UInt8) (a k a' : Nat) (ha : a + k = a') (hk : 0 < k) (hb : a' ≤ b.length) (hbl : b.length ≤ 1000000) (w : World)
    (hS : Sat w (Bs (TkH gb ga b a)) (TkH gb ga b a) w) :
    Calls Try.prog 31 #[.int .i64 k, .pointer (some ⟨gb, 0, none⟩), .pointer (some ⟨ga, 0, none⟩)] w
      fun e w' => ∃ v N, e = .returned v ∧ (v = .int .i64 (Ck.w64 (Ck.val (Ck.cut b a a'))) ∧ N = TkH gb ga b a') ∧ Mod (Bs (TkH gb ga b a)) N w w' := by
  have hcl : (Ck.cut b a a').length = k := by rw [Ck.cut_len hb]; omega
  have hce : Ck.cut b a a' = (b.take a').drop a := rfl
  generalize hl : Ck.cut b a a' = l at *
  refine enterM _ _ hS Try.func31 rfl (by simp only [Try.ntmps31, List.length_cons, List.length_nil, Nat.reduceAdd, Nat.reduceSub]; rfl) ?_
  repeat' (first
    | refine goS ?_
    | ((with_reducible refine WL.isN_bin ?_); first | refine WL.yld rfl binQ ?_)
    | ((with_reducible refine WL.isN_load ?_); first | refine WL.yld rfl loadQ ?_)
    | ((with_reducible refine WL.isN_iaddr ?_); first | refine WL.yld rfl iaddrQ ?_)
    | ((with_reducible refine WL.isN_conv ?_); first | refine WL.yld rfl convQ ?_)
    | ((with_reducible refine WL.isN_call ?_); first | refine WL.yld rfl lenQ ?_)
    | ((with_reducible refine WL.isN_store ?_); first | refine WL.step rfl (StepTo.st1 rfl rfl rfl rfl rfl rfl ?_) | refine WL.step rfl (StepTo.stA rfl rfl rfl rfl rfl rfl rfl ?_) | refine WL.step rfl (StepTo.stR rfl rfl rfl rfl rfl rfl rfl ?_))
    | ((with_reducible refine WL.isN_slice ?_); first | refine WL.step rfl (StepTo.yld (Yld.cutS (lo := a) (hi := a') rfl rfl rfl rfl rfl rfl (by omega) (by omega) (by omega)) rfl ?_))
    | with_reducible refine WC.block ?_
    | (refine WC.cond rfl (fun hc => ?_) (fun hc => ?_) <;> (try first | (with_reducible replace hc := of_decide_eq_true hc) | (with_reducible replace hc := of_decide_eq_false hc) | (with_reducible replace hc := eqT hc) | (with_reducible replace hc := eqF hc) | (with_reducible replace hc := neT hc) | (with_reducible replace hc := neF hc) | (with_reducible replace hc := noT hc) | (with_reducible replace hc := noF hc)) <;> (try (exfalso; omega))))
  rw [← hce]
  clear hce hl
  refine WL.step rfl (StepTo.toBytes (s := l) rfl rfl rfl rfl rfl rfl rfl (by omega) (fun g c4 hc4 => ?_))
  repeat' (first
    | refine goS ?_
    | ((with_reducible refine WL.isN_bin ?_); first | refine WL.yld rfl binQ ?_)
    | ((with_reducible refine WL.isN_load ?_); first | refine WL.yld rfl loadQ ?_)
    | ((with_reducible refine WL.isN_iaddr ?_); first | refine WL.yld rfl iaddrQ ?_)
    | ((with_reducible refine WL.isN_conv ?_); first | refine WL.yld rfl convQ ?_)
    | ((with_reducible refine WL.isN_call ?_); first | refine WL.yld rfl lenQ ?_)
    | ((with_reducible refine WL.isN_store ?_); first | refine WL.step rfl (StepTo.st1 rfl rfl rfl rfl rfl rfl ?_) | refine WL.step rfl (StepTo.stA rfl rfl rfl rfl rfl rfl rfl ?_) | refine WL.step rfl (StepTo.stR rfl rfl rfl rfl rfl rfl rfl ?_))
    | with_reducible refine WC.block ?_
    | (refine WC.cond rfl (fun hc => ?_) (fun hc => ?_) <;> (try first | (with_reducible replace hc := of_decide_eq_true hc) | (with_reducible replace hc := of_decide_eq_false hc) | (with_reducible replace hc := eqT hc) | (with_reducible replace hc := eqF hc) | (with_reducible replace hc := neT hc) | (with_reducible replace hc := neF hc) | (with_reducible replace hc := noT hc) | (with_reducible replace hc := noF hc)) <;> (try (exfalso; omega))))
  refine WC.loop (fun mm τ H => ∃ (i : Nat) (V : Int), V = Ck.w64 (Ck.val (l.take i)) ∧ i ≤ l.length ∧ mm = l.length - i ∧ τ = [(0, .int .i64 k), (2, .pointer (some ⟨ga, 0, none⟩)), (5, .int .i64 V), (14, .slice (some ⟨g, 0, none⟩) l.length c4), (15, .int .i64 l.length), (16, .int .i64 (i : Nat))] ∧
    H = [.vw (some ⟨g, 0, none⟩) l.length 1 (l.map bv), .box gb 9 [.string (bs b)], .box ga 3 [.int .i64 (a : Nat)]]) l.length _ _ [0, 1, 2] ?_ ?_ ⟨0, 0, by rw [List.take_zero]; rfl, by omega, rfl, rfl, rfl⟩ ?_
  · exact (by repeat (first | exact Sub.nil | refine Sub.cons rfl ?_ | refine Sub.consE rfl (int_eq (by omega)) ?_))
  · exact ⟨by decide, rfl⟩
  rintro mm τ H ⟨i, V, hV, hi, rfl, rfl, rfl⟩
  by_cases hil : i < l.length
  · obtain ⟨c, hc⟩ : ∃ c, l[i]? = some c := ⟨_, List.getElem?_eq_getElem hil⟩
    have hx : (l.map bv)[i]? = some (bv c) := by rw [List.getElem?_map, hc]; rfl
    have hnx : Ck.val (l.take (i + 1)) = Ck.val (l.take i) * 256 + c.toNat := by
      rw [← Ck.val_snoc]
      congr 1
      rw [List.take_add_one, hc]
      rfl
    have hcb := b_lt c
    have e1 := shl64 (Ck.val (l.take i))
    have e2 := or64 (Ck.val (l.take i)) c
    rw [← hnx] at e2
    rw [← hV] at e1
    obtain ⟨V3, hV3⟩ : ∃ V3, V3 = Ck.w64 (Ck.val (l.take (i + 1))) := ⟨_, rfl⟩
    rw [← hV3] at e2
    generalize Ck.w64 (Ck.val (l.take i) * 256) = V2 at *
    clear hnx hV
    repeat' (first
    | refine goS ?_
    | ((with_reducible refine WL.isN_bin ?_); first | refine WL.yld rfl (Yld.shlE 8 rfl rfl rfl rfl (by decide) e1) ?_ | refine WL.yld rfl (Yld.pure rfl e2) ?_ | refine WL.yld rfl binQ ?_)
    | ((with_reducible refine WL.isN_load ?_); first | refine WL.yld rfl (Yld.load rfl rfl rfl rfl (CellAt.vwE 0 rfl hx (by omega))) ?_ | refine WL.yld rfl loadQ ?_)
    | ((with_reducible refine WL.isN_iaddr ?_); first | refine WL.yld rfl (Yld.indexS i rfl rfl rfl rfl rfl rfl hil) ?_ | refine WL.yld rfl iaddrQ ?_)
    | ((with_reducible refine WL.isN_conv ?_); first | refine WL.yld rfl convQ ?_)
    | ((with_reducible refine WL.isN_call ?_); first | refine WL.yld rfl lenQ ?_)
    | ((with_reducible refine WL.isN_store ?_); first | refine WL.step rfl (StepTo.st1 rfl rfl rfl rfl rfl rfl ?_) | refine WL.step rfl (StepTo.stA rfl rfl rfl rfl rfl rfl rfl ?_) | refine WL.step rfl (StepTo.stR rfl rfl rfl rfl rfl rfl rfl ?_))
    | with_reducible refine WC.block ?_
    | (refine WC.cond rfl (fun hc => ?_) (fun hc => ?_) <;> (try first | (with_reducible replace hc := of_decide_eq_true hc) | (with_reducible replace hc := of_decide_eq_false hc) | (with_reducible replace hc := eqT hc) | (with_reducible replace hc := eqF hc) | (with_reducible replace hc := neT hc) | (with_reducible replace hc := neF hc) | (with_reducible replace hc := noT hc) | (with_reducible replace hc := noF hc)) <;> (try (exfalso; omega))))
    exact WQ.rnd (l.length - (i + 1)) _ _ [0, 1, 2] (by repeat (first | exact Sub.nil | refine Sub.cons rfl ?_ | refine Sub.consE rfl (int_eq (by omega)) ?_)) ⟨by decide, rfl⟩ (by omega) ⟨i + 1, V3, hV3, by omega, rfl, rfl, rfl⟩
  · obtain rfl : i = l.length := by omega
    rw [List.take_length] at hV
    rw [← hV]
    clear hV
    have hav : Value.int .i64 ((a : Int) + k) = .int .i64 (a' : Nat) := int_eq (by omega)
    repeat' (first
    | refine goS ?_
    | ((with_reducible refine WL.isN_bin ?_); first | refine WL.yld rfl (Yld.as (Yld.pure rfl (nI64 (by omega))) hav) ?_ | refine WL.yld rfl binQ ?_)
    | ((with_reducible refine WL.isN_load ?_); first | refine WL.yld rfl loadQ ?_)
    | ((with_reducible refine WL.isN_iaddr ?_); first | refine WL.yld rfl iaddrQ ?_)
    | ((with_reducible refine WL.isN_conv ?_); first | refine WL.yld rfl convQ ?_)
    | ((with_reducible refine WL.isN_call ?_); first | refine WL.yld rfl lenQ ?_)
    | ((with_reducible refine WL.isN_store ?_); first | refine WL.step rfl (StepTo.st1 rfl rfl rfl rfl rfl rfl ?_) | refine WL.step rfl (StepTo.stA rfl rfl rfl rfl rfl rfl rfl ?_) | refine WL.step rfl (StepTo.stR rfl rfl rfl rfl rfl rfl rfl ?_))
    | with_reducible refine WC.block ?_
    | (refine WC.cond rfl (fun hc => ?_) (fun hc => ?_) <;> (try first | (with_reducible replace hc := of_decide_eq_true hc) | (with_reducible replace hc := of_decide_eq_false hc) | (with_reducible replace hc := eqT hc) | (with_reducible replace hc := eqF hc) | (with_reducible replace hc := neT hc) | (with_reducible replace hc := neF hc) | (with_reducible replace hc := noT hc) | (with_reducible replace hc := noF hc)) <;> (try (exfalso; omega))))
    exact WQ.body (Reads.tmp rfl rfl) fun w' hw' => ⟨_, _, rfl, ⟨rfl, rfl⟩, (hw'.pick (idx := [1, 2]) ⟨by decide, rfl⟩).toMod (by simp [Item.mine])⟩
/-- The variable that holds the function. -/
abbrev WdH (gt gb ga : Nat) (b : List UInt8) (a : Nat) : List Item := .box gt 69 [.func (.func 31) #[] #[.pointer (some ⟨gb, 0, none⟩), .pointer (some ⟨ga, 0, none⟩)]] :: TkH gb ga b a
theorem wide_w (gt gb ga : Nat) (b : List UInt8) (a a' : Nat) (ha : a + 4 = a') (hb : a' ≤ b.length) (hbl : b.length ≤ 1000000) (w : World)
    (hS : Sat w (Bs (WdH gt gb ga b a)) (WdH gt gb ga b a) w) :
    Calls Try.prog 32 #[.pointer (some ⟨gt, 0, none⟩)] w
      fun e w' => ∃ v N, e = .returned v ∧ (v = .int .u32 (Ck.val (Ck.cut b a a') : Nat) ∧ N = WdH gt gb ga b a') ∧ Mod (Bs (WdH gt gb ga b a)) N w w' := by
  have ht := fun w hS => take_w gb ga b a 4 a' ha (by omega) hb hbl w hS
  have hv : Ck.val (Ck.cut b a a') < 4294967296 := by
    have := Ck.val_lt (Ck.cut b a a')
    rw [Ck.cut_len hb, show a' - a = 4 from by omega] at this
    exact this
  have hu := u32_64 hv
  generalize Ck.w64 (Ck.val (Ck.cut b a a')) = V at *
  refine enterM _ _ hS Try.func32 rfl (by simp only [Try.ntmps32, List.length_cons, List.length_nil, Nat.reduceAdd, Nat.reduceSub]; rfl) ?_
  repeat' (first
    | refine goS ?_
    | ((with_reducible refine WL.isN_load ?_); first | refine WL.yld rfl loadQ ?_)
    | ((with_reducible refine WL.isN_conv ?_); first | refine WL.yld rfl convQ ?_)
    | ((with_reducible refine WL.isN_call ?_); first | refine WL.step rfl (StepTo.callP (us := [.int .i64 4, .pointer (some ⟨gb, 0, none⟩), .pointer (some ⟨ga, 0, none⟩)]) (HI := TkH gb ga b a) [1, 2] [0] ⟨by decide, rfl⟩ rfl ⟨by decide, rfl⟩ rfl rfl rfl rfl rfl rfl (by kernel_rfl) (fun w hw hS => ht w hS) ?_))
    | with_reducible refine WC.block ?_
    | (refine WC.cond rfl (fun hc => ?_) (fun hc => ?_) <;> (try first | (with_reducible replace hc := of_decide_eq_true hc) | (with_reducible replace hc := of_decide_eq_false hc) | (with_reducible replace hc := eqT hc) | (with_reducible replace hc := eqF hc) | (with_reducible replace hc := neT hc) | (with_reducible replace hc := neF hc) | (with_reducible replace hc := noT hc) | (with_reducible replace hc := noF hc)) <;> (try (exfalso; omega))))
  rintro v N ⟨rfl, rfl⟩
  repeat' (first
    | refine goS ?_
    | ((with_reducible refine WL.isN_load ?_); first | refine WL.yld rfl loadQ ?_)
    | ((with_reducible refine WL.isN_conv ?_); first | refine WL.yld rfl (Yld.convInt rfl rfl rfl rfl hu) ?_ | refine WL.yld rfl convQ ?_)
    | with_reducible refine WC.block ?_
    | (refine WC.cond rfl (fun hc => ?_) (fun hc => ?_) <;> (try first | (with_reducible replace hc := of_decide_eq_true hc) | (with_reducible replace hc := of_decide_eq_false hc) | (with_reducible replace hc := eqT hc) | (with_reducible replace hc := eqF hc) | (with_reducible replace hc := neT hc) | (with_reducible replace hc := neF hc) | (with_reducible replace hc := noT hc) | (with_reducible replace hc := noF hc)) <;> (try (exfalso; omega))))
  exact WQ.body (Reads.tmp rfl rfl) fun w' hw' => ⟨_, _, rfl, ⟨rfl, rfl⟩, (hw'.pick (idx := [2, 0, 1]) ⟨by decide, rfl⟩).toMod (by simp [Item.mine])⟩
theorem narrow_w (gt gb ga : Nat) (b : List UInt8) (a a' : Nat) (ha : a + 2 = a') (hb : a' ≤ b.length) (hbl : b.length ≤ 1000000) (w : World)
    (hS : Sat w (Bs (WdH gt gb ga b a)) (WdH gt gb ga b a) w) :
    Calls Try.prog 33 #[.pointer (some ⟨gt, 0, none⟩)] w
      fun e w' => ∃ v N, e = .returned v ∧ (v = .int .u16 (Ck.val (Ck.cut b a a') : Nat) ∧ N = WdH gt gb ga b a') ∧ Mod (Bs (WdH gt gb ga b a)) N w w' := by
  have ht := fun w hS => take_w gb ga b a 2 a' ha (by omega) hb hbl w hS
  have hv : Ck.val (Ck.cut b a a') < 65536 := by
    have := Ck.val_lt (Ck.cut b a a')
    rw [Ck.cut_len hb, show a' - a = 2 from by omega] at this
    exact this
  have hu := u16_64 hv
  generalize Ck.w64 (Ck.val (Ck.cut b a a')) = V at *
  refine enterM _ _ hS Try.func33 rfl (by simp only [Try.ntmps33, List.length_cons, List.length_nil, Nat.reduceAdd, Nat.reduceSub]; rfl) ?_
  repeat' (first
    | refine goS ?_
    | ((with_reducible refine WL.isN_load ?_); first | refine WL.yld rfl loadQ ?_)
    | ((with_reducible refine WL.isN_conv ?_); first | refine WL.yld rfl convQ ?_)
    | ((with_reducible refine WL.isN_call ?_); first | refine WL.step rfl (StepTo.callP (us := [.int .i64 2, .pointer (some ⟨gb, 0, none⟩), .pointer (some ⟨ga, 0, none⟩)]) (HI := TkH gb ga b a) [1, 2] [0] ⟨by decide, rfl⟩ rfl ⟨by decide, rfl⟩ rfl rfl rfl rfl rfl rfl (by kernel_rfl) (fun w hw hS => ht w hS) ?_))
    | with_reducible refine WC.block ?_
    | (refine WC.cond rfl (fun hc => ?_) (fun hc => ?_) <;> (try first | (with_reducible replace hc := of_decide_eq_true hc) | (with_reducible replace hc := of_decide_eq_false hc) | (with_reducible replace hc := eqT hc) | (with_reducible replace hc := eqF hc) | (with_reducible replace hc := neT hc) | (with_reducible replace hc := neF hc) | (with_reducible replace hc := noT hc) | (with_reducible replace hc := noF hc)) <;> (try (exfalso; omega))))
  rintro v N ⟨rfl, rfl⟩
  repeat' (first
    | refine goS ?_
    | ((with_reducible refine WL.isN_load ?_); first | refine WL.yld rfl loadQ ?_)
    | ((with_reducible refine WL.isN_conv ?_); first | refine WL.yld rfl (Yld.convInt rfl rfl rfl rfl hu) ?_ | refine WL.yld rfl convQ ?_)
    | with_reducible refine WC.block ?_
    | (refine WC.cond rfl (fun hc => ?_) (fun hc => ?_) <;> (try first | (with_reducible replace hc := of_decide_eq_true hc) | (with_reducible replace hc := of_decide_eq_false hc) | (with_reducible replace hc := eqT hc) | (with_reducible replace hc := eqF hc) | (with_reducible replace hc := neT hc) | (with_reducible replace hc := neF hc) | (with_reducible replace hc := noT hc) | (with_reducible replace hc := noF hc)) <;> (try (exfalso; omega))))
  exact WQ.body (Reads.tmp rfl rfl) fun w' hw' => ⟨_, _, rfl, ⟨rfl, rfl⟩, (hw'.pick (idx := [2, 0, 1]) ⟨by decide, rfl⟩).toMod (by simp [Item.mine])⟩
end Go.Proofs.Ytheilikelcgdmaa
