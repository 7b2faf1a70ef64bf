/- Two texts held against each other, of the program. -/
import Derived.Test.YtheilikelcgdmaaHmB
namespace Go.Proofs.Ytheilikelcgdmaa
open Go.RowKit
set_option linter.unusedVariables false
set_option maxRecDepth 100000

/-- How unlike two texts are behind i bytes. -/
def unl (a b : List UInt8) : Nat → UInt8
  | 0 => 0
  | i + 1 => unl a b i ||| (a.getD i 0 ^^^ b.getD i 0)
theorem unl_zero (a b : List UInt8) : ∀ i, unl a b i = 0 ↔ ∀ j, j < i → a.getD j 0 = b.getD j 0
  | 0 => ⟨fun _ j hj => by omega, fun _ => rfl⟩
  | i + 1 => by
    rw [unl, UInt8.or_eq_zero_iff, UInt8.xor_eq_zero_iff, unl_zero a b i]
    constructor
    · rintro ⟨h1, h2⟩ j hj
      by_cases e : j = i
      · rw [e]; exact h2
      · exact h1 j (by omega)
    · exact fun h => ⟨fun j hj => h j (by omega), h i (by omega)⟩
theorem unl_all {a b : List UInt8} (hl : a.length = b.length) : (((unl a b a.length).toNat : Int) == 0) = (a == b) := by
  have h : unl a b a.length = 0 ↔ a = b := by
    rw [unl_zero]
    constructor
    · intro h
      apply List.ext_getElem? 
      intro j
      by_cases hj : j < a.length
      · have := h j hj
        rw [List.getD_eq_getElem?_getD, List.getD_eq_getElem?_getD, List.getElem?_eq_getElem hj, List.getElem?_eq_getElem (hl ▸ hj)] at this
        rw [List.getElem?_eq_getElem hj, List.getElem?_eq_getElem (hl ▸ hj)]
        simpa using this
      · rw [List.getElem?_eq_none (by omega), List.getElem?_eq_none (by omega)]
    · rintro rfl j _; rfl
  by_cases e : a = b
  · rw [h.2 e, beq_iff_eq.2 e]; rfl
  · have h1 : unl a b a.length ≠ 0 := fun hh => e (h.1 hh)
    have h2 : (unl a b a.length).toNat ≠ 0 := fun hh => h1 (UInt8.toNat_inj.1 hh)
    have e1 : (a == b) = false := by simpa using e
    rw [e1, beqF (by omega)]
set_option maxHeartbeats 4000000 in
theorem same_q (a b : List UInt8) (ha : a.length ≤ 1073741824) (w : World) : Calls Try.prog 42 #[.string (bs a), .string (bs b)] w
    fun e w' => e = .returned (.bool (a == b)) ∧ Below w.heap.size w w' := by
  refine enterW (fun _ => False) _ Try.func42 rfl (by simp only [Try.ntmps42, List.length_cons, List.length_nil, Nat.reduceAdd, Nat.reduceSub]; rfl) ?_
  by_cases hl : a.length = b.length
  · have hall := unl_all hl
    repeat' (first
    | refine goS ?_
    | ((with_reducible refine WL.isN_bin ?_); first | refine WL.yld rfl binQ ?_)
    | ((with_reducible refine WL.isN_load ?_); first | refine WL.yld rfl loadQ ?_)
    | ((with_reducible refine WL.isN_iaddr ?_); first | refine WL.yld rfl iaddrQ ?_)
    | ((with_reducible refine WL.isN_conv ?_); first | refine WL.yld rfl convQ ?_)
    | ((with_reducible refine WL.isN_call ?_); first | refine WL.yld rfl (Yld.lenB rfl rfl rfl) ?_ | refine WL.yld rfl lenQ ?_)
    | ((with_reducible refine WL.isN_index ?_); first | refine WL.yld rfl (Yld.indexStr _ rfl rfl rfl rfl rfl (by assumption)) ?_)
    | with_reducible refine WC.block ?_
    | (refine WC.cond rfl (fun hc => ?_) (fun hc => ?_) <;> (try first | (with_reducible replace hc := of_decide_eq_true hc) | (with_reducible replace hc := of_decide_eq_false hc) | (with_reducible replace hc := eqT hc) | (with_reducible replace hc := eqF hc) | (with_reducible replace hc := neT hc) | (with_reducible replace hc := neF hc) | (with_reducible replace hc := noT hc) | (with_reducible replace hc := noF hc)) <;> (try (exfalso; omega))))
    refine WL.step rfl (StepTo.toBytes (s := a) rfl rfl rfl rfl rfl rfl rfl (by omega) (fun g c4 hc4 => ?_))
    repeat' (first
    | refine goS ?_
    | ((with_reducible refine WL.isN_bin ?_); first | refine WL.yld rfl binQ ?_)
    | ((with_reducible refine WL.isN_load ?_); first | refine WL.yld rfl loadQ ?_)
    | ((with_reducible refine WL.isN_iaddr ?_); first | refine WL.yld rfl iaddrQ ?_)
    | ((with_reducible refine WL.isN_conv ?_); first | refine WL.yld rfl convQ ?_)
    | ((with_reducible refine WL.isN_call ?_); first | refine WL.yld rfl lenQ ?_)
    | ((with_reducible refine WL.isN_index ?_); first | refine WL.yld rfl (Yld.indexStr _ rfl rfl rfl rfl rfl (by assumption)) ?_)
    | with_reducible refine WC.block ?_
    | (refine WC.cond rfl (fun hc => ?_) (fun hc => ?_) <;> (try first | (with_reducible replace hc := of_decide_eq_true hc) | (with_reducible replace hc := of_decide_eq_false hc) | (with_reducible replace hc := eqT hc) | (with_reducible replace hc := eqF hc) | (with_reducible replace hc := neT hc) | (with_reducible replace hc := neF hc) | (with_reducible replace hc := noT hc) | (with_reducible replace hc := noF hc)) <;> (try (exfalso; omega))))
    refine WC.loop (fun mm τ H => ∃ i, i ≤ a.length ∧ mm = a.length - i ∧ τ = [(1, .string (bs b)), (5, bv (unl a b i)), (14, .slice (some ⟨g, 0, none⟩) a.length c4), (15, .int .i64 a.length), (16, .int .i64 (i : Nat))] ∧ H = [.vw (some ⟨g, 0, none⟩) a.length 1 (a.map bv)]) a.length _ _ [0] ?_ ?_ ⟨0, by omega, rfl, rfl, rfl⟩ ?_
    · exact (by repeat (first | exact Sub.nil | refine Sub.cons rfl ?_ | refine Sub.consE rfl (int_eq (by omega)) ?_))
    · exact ⟨by decide, rfl⟩
    rintro mm τ H ⟨i, hi, rfl, rfl, rfl⟩
    by_cases hia : i < a.length
    · have hx : (a.map bv)[i]? = some (bv (a.getD i 0)) := by rw [List.getElem?_map, List.getElem?_eq_getElem hia, List.getD_eq_getElem?_getD, List.getElem?_eq_getElem hia]; rfl
      have hb : b[i]? = some (b.getD i 0) := by rw [List.getD_eq_getElem?_getD, List.getElem?_eq_getElem (hl ▸ hia)]; rfl
      repeat' (first
    | refine goS ?_
    | ((with_reducible refine WL.isN_bin ?_); first | refine WL.yld rfl (Yld.as (Yld.pure rfl rfl) bXor) ?_ | refine WL.yld rfl (Yld.as (Yld.pure rfl rfl) bOr) ?_ | refine WL.yld rfl binQ ?_)
    | ((with_reducible refine WL.isN_load ?_); first | refine WL.yld rfl (Yld.load rfl rfl rfl rfl (CellAt.vwE 0 rfl hx (by omega))) ?_ | refine WL.yld rfl loadQ ?_)
    | ((with_reducible refine WL.isN_iaddr ?_); first | refine WL.yld rfl (Yld.indexS i rfl rfl rfl rfl rfl rfl hia) ?_ | refine WL.yld rfl iaddrQ ?_)
    | ((with_reducible refine WL.isN_conv ?_); first | refine WL.yld rfl convQ ?_)
    | ((with_reducible refine WL.isN_call ?_); first | refine WL.yld rfl lenQ ?_)
    | ((with_reducible refine WL.isN_index ?_); first | refine WL.yld rfl (Yld.indexB i rfl rfl rfl rfl rfl hb) ?_ | refine WL.yld rfl (Yld.indexStr _ rfl rfl rfl rfl rfl (by assumption)) ?_)
    | with_reducible refine WC.block ?_
    | (refine WC.cond rfl (fun hc => ?_) (fun hc => ?_) <;> (try first | (with_reducible replace hc := of_decide_eq_true hc) | (with_reducible replace hc := of_decide_eq_false hc) | (with_reducible replace hc := eqT hc) | (with_reducible replace hc := eqF hc) | (with_reducible replace hc := neT hc) | (with_reducible replace hc := neF hc) | (with_reducible replace hc := noT hc) | (with_reducible replace hc := noF hc)) <;> (try (exfalso; omega))))
      exact WQ.rnd (a.length - (i + 1)) _ _ [0] (by repeat (first | exact Sub.nil | refine Sub.cons rfl ?_ | refine Sub.consE rfl (int_eq (by omega)) ?_)) ⟨by decide, rfl⟩ (by omega) ⟨i + 1, by omega, rfl, rfl, rfl⟩
    obtain rfl : i = a.length := by omega
    rw [← hall]
    repeat' (first
    | refine goS ?_
    | ((with_reducible refine WL.isN_bin ?_); first | refine WL.yld rfl binQ ?_)
    | ((with_reducible refine WL.isN_load ?_); first | refine WL.yld rfl loadQ ?_)
    | ((with_reducible refine WL.isN_iaddr ?_); first | refine WL.yld rfl iaddrQ ?_)
    | ((with_reducible refine WL.isN_conv ?_); first | refine WL.yld rfl convQ ?_)
    | ((with_reducible refine WL.isN_call ?_); first | refine WL.yld rfl lenQ ?_)
    | ((with_reducible refine WL.isN_index ?_); first | refine WL.yld rfl (Yld.indexStr _ rfl rfl rfl rfl rfl (by assumption)) ?_)
    | with_reducible refine WC.block ?_
    | (refine WC.cond rfl (fun hc => ?_) (fun hc => ?_) <;> (try first | (with_reducible replace hc := of_decide_eq_true hc) | (with_reducible replace hc := of_decide_eq_false hc) | (with_reducible replace hc := eqT hc) | (with_reducible replace hc := eqF hc) | (with_reducible replace hc := neT hc) | (with_reducible replace hc := neF hc) | (with_reducible replace hc := noT hc) | (with_reducible replace hc := noF hc)) <;> (try (exfalso; omega))))
    exact WQ.body (Reads.tmp rfl rfl) fun w' hw' => ⟨rfl, hw'.ext.below⟩
  · have e1 : (a == b) = false := by simpa using fun e => hl (congrArg List.length e)
    rw [e1]
    repeat' (first
    | refine goS ?_
    | ((with_reducible refine WL.isN_bin ?_); first | refine WL.yld rfl binQ ?_)
    | ((with_reducible refine WL.isN_load ?_); first | refine WL.yld rfl loadQ ?_)
    | ((with_reducible refine WL.isN_iaddr ?_); first | refine WL.yld rfl iaddrQ ?_)
    | ((with_reducible refine WL.isN_conv ?_); first | refine WL.yld rfl convQ ?_)
    | ((with_reducible refine WL.isN_call ?_); first | refine WL.yld rfl (Yld.lenB rfl rfl rfl) ?_ | refine WL.yld rfl lenQ ?_)
    | ((with_reducible refine WL.isN_index ?_); first | refine WL.yld rfl (Yld.indexStr _ rfl rfl rfl rfl rfl (by assumption)) ?_)
    | with_reducible refine WC.block ?_
    | (refine WC.cond rfl (fun hc => ?_) (fun hc => ?_) <;> (try first | (with_reducible replace hc := of_decide_eq_true hc) | (with_reducible replace hc := of_decide_eq_false hc) | (with_reducible replace hc := eqT hc) | (with_reducible replace hc := eqF hc) | (with_reducible replace hc := neT hc) | (with_reducible replace hc := neF hc) | (with_reducible replace hc := noT hc) | (with_reducible replace hc := noF hc)) <;> (try (exfalso; omega))))
    exact WQ.body (Reads.tmp rfl rfl) fun w' hw' => ⟨rfl, hw'.ext.below⟩
theorem check_q (k s t : List UInt8) (hk : k.length ≤ 1073741824) (hs : s.length ≤ 1073741824) (w : World) : Calls Try.prog 30 #[.string (bs k), .string (bs s), .string (bs t)] w
    fun e w' => e = .returned (.bool (Hm.sum k s == t)) ∧ Below w.heap.size w w' := by
  refine enterW (fun _ => False) _ Try.func30 rfl (by simp only [Try.ntmps30, List.length_cons, List.length_nil, Nat.reduceAdd, Nat.reduceSub]; rfl) ?_
  have hz := Hm.sum_len k s
  have hq := fun w => hm_q k s hk hs w
  generalize Hm.sum k s = z at *
  repeat' (first
    | refine goS ?_
    | ((with_reducible refine WL.isN_call ?_); first | refine WL.step rfl (StepTo.callV (v := .string (bs z)) (us := [.string (bs k), .string (bs s)]) rfl rfl rfl rfl rfl (by kernel_rfl) (fun w hw => hq w) ?_) | refine WL.step rfl (StepTo.callV (v := .bool (z == t)) (us := [.string (bs z), .string (bs t)]) rfl rfl rfl rfl rfl (by kernel_rfl) (fun w hw => same_q z t (by omega) w) ?_))
    | with_reducible refine WC.block ?_
    | (refine WC.cond rfl (fun hc => ?_) (fun hc => ?_) <;> (try first | (with_reducible replace hc := of_decide_eq_true hc) | (with_reducible replace hc := of_decide_eq_false hc) | (with_reducible replace hc := eqT hc) | (with_reducible replace hc := eqF hc) | (with_reducible replace hc := neT hc) | (with_reducible replace hc := neF hc) | (with_reducible replace hc := noT hc) | (with_reducible replace hc := noF hc)) <;> (try (exfalso; omega))))
  exact WQ.body (Reads.tmp rfl rfl) fun w' hw' => ⟨rfl, hw'.ext.below⟩
end Go.Proofs.Ytheilikelcgdmaa
