/- Where a number stands among those above; whether it came. -/
import Derived.Test.YthbhjnmkbmmcnaaGtF
import Derived.Test.YthbhjnmkbmmcnaaGtQ
import Derived.Test.YthbhjnmkbmmcnaaRw
import Derived.Test.YthbhjnmkbmmcnaaRow
import Derived.Test.YthbhjnmkbmmcnaaMm
import Derived.Test.YthbhjnmkbmmcnaaMk
import Derived.Test.YthbhjnmkbmmcnaaBls
namespace Go.Proofs.Ythbhjnmkbmmcnaa
open Go.RowKit Go.IntWalk
set_option linter.unusedVariables false
set_option linter.unusedSimpArgs false
set_option linter.unusedSectionVars false
set_option maxRecDepth 100000

namespace Gt
/-- Where it stands. -/
def pos (D : List Nat) (d : Nat) : Nat := D.findIdx fun x => decide (d ≤ x)
theorem pos_at {D : List Nat} (h : D.Pairwise (· < ·)) (d : Nat) : At D d (pos D d) := by
  refine ⟨List.findIdx_le_length, fun i x hi hx => ?_, fun i x hi hx => ?_⟩
  · have := List.not_of_lt_findIdx hi
    obtain ⟨hl, rfl⟩ := List.getElem?_eq_some_iff.1 hx
    simpa using this
  · obtain ⟨hl, rfl⟩ := List.getElem?_eq_some_iff.1 hx
    have hp : pos D d < D.length := Nat.lt_of_le_of_lt hi hl
    have h1 : d ≤ D[pos D d] := of_decide_eq_true (List.findIdx_getElem (p := fun x => decide (d ≤ x)) (xs := D) (w := hp))
    rcases Nat.eq_or_lt_of_le hi with e | e
    · subst e; exact h1
    · have := List.pairwise_iff_getElem.1 h (pos D d) i hp hl e
      omega
theorem at_one {D : List Nat} {d p q : Nat} (h : At D d p) (k : At D d q) : p = q := by
  rcases Nat.lt_trichotomy p q with e | e | e
  · have hl : p < D.length := Nat.lt_of_lt_of_le e k.le
    have h1 := k.lo p _ e (List.getElem?_eq_getElem hl)
    have h2 := h.hi p _ (Nat.le_refl _) (List.getElem?_eq_getElem hl)
    omega
  · exact e
  · have hl : q < D.length := Nat.lt_of_lt_of_le e h.le
    have h1 := h.lo q _ e (List.getElem?_eq_getElem hl)
    have h2 := k.hi q _ (Nat.le_refl _) (List.getElem?_eq_getElem hl)
    omega
theorem at_mem {D : List Nat} {d p : Nat} (hp : D.Pairwise (· < ·)) (h : At D d p) : d ∈ D ↔ D[p]? = some d := by
  constructor
  · intro hm
    obtain ⟨i, hi, e⟩ := List.getElem_of_mem hm
    have hx : D[i]? = some d := by rw [List.getElem?_eq_getElem hi, e]
    have h1 : ¬ i < p := fun hl => by have := h.lo i _ hl hx; omega
    have h2 : ¬ p < i := fun hl => by
      have hpl : p < D.length := by omega
      have h3 := h.hi p _ (Nat.le_refl _) (List.getElem?_eq_getElem hpl)
      have h4 := List.pairwise_iff_getElem.1 hp p i hpl hi hl
      omega
    rw [show p = i by omega]; exact hx
  · exact List.mem_of_getElem?
end Gt
/-- A signed distance. -/
def sdd (d : Int) : Int := IntKind.i32.wrap (IntKind.u32.wrap d)
theorem sdd_eq (d : Int) : sdd d = (d + 2147483648) % 4294967296 - 2147483648 := by
  unfold sdd
  simp [IntKind.wrap, IntKind.bits, IntKind.signed]
  omega
theorem gdist_q (a b : Int) (w : World) : Calls Try.prog 35 #[.int .u32 a, .int .u32 b] w fun e w' => e = .returned (.int .i64 (sdd (b - a))) ∧ Below w.heap.size w w' := by
  have h0 : -2147483648 ≤ sdd (b - a) ∧ sdd (b - a) ≤ 2147483647 := by rw [sdd_eq]; omega
  refine enterW (fun _ => False) _ Try.func35 rfl (by simp only [Try.ntmps35, List.length_cons, List.length_nil, Nat.reduceAdd, Nat.reduceSub]; rfl) ?_
  repeat' (first
    | refine goS ?_
    | ((with_reducible refine WL.isN_bin ?_); first | refine WL.yld rfl (Yld.pure rfl rfl) ?_ | refine WL.yld rfl binQ ?_)
    | ((with_reducible refine WL.isN_conv ?_); first | refine WL.yld rfl (Yld.convInt rfl rfl rfl rfl (rfl : _ = Value.int .i32 (sdd (b - a)))) ?_ | refine WL.yld rfl (Yld.convInt rfl rfl rfl rfl (nI64 (x := sdd (b - a)) (by omega))) ?_ | refine WL.yld rfl convQ ?_)
    | with_reducible refine WC.block ?_
    | (refine WC.cond rfl (fun hc => ?_) (fun hc => ?_) <;> (try first | (with_reducible replace hc := of_decide_eq_true hc) | (with_reducible replace hc := of_decide_eq_false hc) | (with_reducible replace hc := eqT hc) | (with_reducible replace hc := eqF hc) | (with_reducible replace hc := neT hc) | (with_reducible replace hc := neF hc) | (with_reducible replace hc := noT hc) | (with_reducible replace hc := noF hc)) <;> (try (exfalso; omega))))
  exact WQ.body (Reads.tmp rfl rfl) fun w' hw' => ⟨rfl, hw'.ext.below⟩
theorem cmp3 (e d : Nat) : Lib.compareInt (e : Int) (d : Int) = if e < d then -1 else if e = d then 0 else 1 := by
  unfold Lib.compareInt
  split
  · rw [if_pos (by omega)]
  · split
    · rw [if_neg (by omega), if_neg (by omega)]
    · rw [if_neg (by omega), if_pos (by omega)]
theorem place1_q (g : Nat) (c : Int) (a b : Value) (x y : Int) (e d : Nat) (hx : (x - c) % 4294967296 = (e : Nat)) (hy : (y - c) % 4294967296 = (d : Nat)) (r : Int) (hr : (if e < d then -1 else if e = d then 0 else 1) = r) (w : World) (hI : InpAt w g 0 [.int .u32 c, a, b]) :
    Calls Try.prog 39 #[.int .u32 x, .int .u32 y, .pointer (some ⟨g, 0, none⟩)] w fun e w' => e = .returned (.int .i64 r) ∧ Below w.heap.size w w' := by
  have hc := fun w => (cmp_any ((x - c) % 4294967296) ((y - c) % 4294967296) w).mono (R' := fun e w' => e = .returned (.int .i64 r) ∧ Below w.heap.size w w') fun e w' h => ⟨by rw [h.1, hx, hy, cmp3, hr], h.2 ▸ Below.refl _ _⟩
  refine enterW (fun _ => False) _ Try.func39 rfl (by simp only [Try.ntmps39, List.length_cons, List.length_nil, Nat.reduceAdd, Nat.reduceSub]; rfl) ?_
  repeat' (first
    | refine goS ?_
    | ((with_reducible refine WL.isN_bin ?_); first | refine WL.yld rfl (Yld.pure rfl mU32) ?_ | refine WL.yld rfl binQ ?_)
    | ((with_reducible refine WL.isN_load ?_); first | refine WL.yld rfl loadQ ?_)
    | ((with_reducible refine WL.isN_call ?_); first | refine WL.step rfl (StepTo.callV (v := .int .i64 r) (us := [.int .u32 ((x - c) % 4294967296), .int .u32 ((y - c) % 4294967296)]) rfl rfl rfl rfl rfl (by kernel_rfl) (fun w hw => hc w) ?_))
    | with_reducible refine WC.block ?_
    | (refine WC.cond rfl (fun hc => ?_) (fun hc => ?_) <;> (try first | (with_reducible replace hc := of_decide_eq_true hc) | (with_reducible replace hc := of_decide_eq_false hc) | (with_reducible replace hc := eqT hc) | (with_reducible replace hc := eqF hc) | (with_reducible replace hc := neT hc) | (with_reducible replace hc := neF hc) | (with_reducible replace hc := noT hc) | (with_reducible replace hc := noF hc)) <;> (try (exfalso; omega))))
  exact WQ.body (Reads.tmp rfl rfl) fun w' hw' => ⟨rfl, hw'.ext.below⟩
theorem InpAt.more {w w' : World} {b o : Nat} {vs : List Value} (h : InpAt w b o vs) (hb : Below w.heap.size w w') : InpAt w' b o vs := fun j u hu => by
  have h1 := h j u hu
  exact (hb.cell (p := ⟨b, o + j, none⟩) (World.block_lt_of_cell? w _ h1)).trans h1
set_option maxHeartbeats 4000000 in
theorem search_q (A : Option Addr) (n c : Nat) (cm t : Int) (D : List Nat) (g : Nat) (a b : Value) (w : World) (hL : Lst (ic .u32) 1 w w.heap.size A n (Gt.ab cm D)) (hn : n ≤ 1000000) (hD : D.Pairwise (· < ·)) (h4 : ∀ d ∈ D, d < 4294967296) (hI : InpAt w g 0 [.int .u32 cm, a, b]) :
    Calls Try.prog 38 #[.slice A n c, .int .u32 t, .func (.func 39) #[] #[.pointer (some ⟨g, 0, none⟩)]] w
      fun e w' => e = .returned (.tuple #[.int .i64 (Gt.pos D (Gt.ds cm t) : Nat), .bool (D.contains (Gt.ds cm t))]) ∧ Below w.heap.size w w' := by
  have hl := hL.len
  rw [Gt.ab_len] at hl
  have hP := Gt.pos_at hD (Gt.ds cm t)
  have hcq : ∀ (k e : Nat) (r : Int), D[k]? = some e → (if e < Gt.ds cm t then -1 else if e = Gt.ds cm t then 0 else 1) = r → ∀ w', Below w.heap.size w w' → Calls Try.prog 39 #[.int .u32 (Gt.up cm e), .int .u32 t, .pointer (some ⟨g, 0, none⟩)] w' fun e w'' => e = .returned (.int .i64 r) ∧ Below w'.heap.size w' w'' := fun k e r hk hr w' hb =>
    place1_q g cm a b (Gt.up cm e) t e (Gt.ds cm t) (by rw [Gt.ds_eq, Gt.ds_up (h4 e (List.mem_of_getElem? hk))]) (Gt.ds_eq cm t) r hr w' (hI.more hb)
  refine enterW (fun _ => False) _ Try.func38 rfl (by simp only [Try.ntmps38, List.length_cons, List.length_nil, Nat.reduceAdd, Nat.reduceSub]; rfl) ?_
  refine WC.addVw (ic_len .u32) hL ?_
  repeat' (first
    | refine goS ?_
    | ((with_reducible refine WL.isN_bin ?_); first | refine WL.yld rfl binQ ?_)
    | ((with_reducible refine WL.isN_load ?_); first | refine WL.yld rfl loadQ ?_)
    | ((with_reducible refine WL.isN_iaddr ?_); first | refine WL.yld rfl iaddrQ ?_)
    | ((with_reducible refine WL.isN_conv ?_); first | refine WL.yld rfl convQ ?_)
    | ((with_reducible refine WL.isN_call ?_); first | refine WL.yld rfl lenQ ?_)
    | with_reducible refine WC.block ?_
    | (refine WC.cond rfl (fun hc => ?_) (fun hc => ?_) <;> (try first | (with_reducible replace hc := of_decide_eq_true hc) | (with_reducible replace hc := of_decide_eq_false hc) | (with_reducible replace hc := eqT hc) | (with_reducible replace hc := eqF hc) | (with_reducible replace hc := neT hc) | (with_reducible replace hc := neF hc) | (with_reducible replace hc := noT hc) | (with_reducible replace hc := noF hc)) <;> (try (exfalso; omega))))
  have h0a : ∀ i x, i < 0 → D[i]? = some x → x < Gt.ds cm t := fun i x hi => absurd hi (by omega)
  have h0b : ∀ i x, n ≤ i → D[i]? = some x → Gt.ds cm t ≤ x := fun i x hi hx => by rw [List.getElem?_eq_none (by omega)] at hx; cases hx
  refine WC.loop (fun mm τ H => ∃ lo hi : Nat, lo ≤ hi ∧ hi ≤ n ∧ mm = hi - lo ∧ (∀ i x, i < lo → D[i]? = some x → x < Gt.ds cm t) ∧ (∀ i x, hi ≤ i → D[i]? = some x → Gt.ds cm t ≤ x) ∧
      τ = [(0, .slice A n c), (1, .int .u32 t), (2, .func (.func 39) #[] #[.pointer (some ⟨g, 0, none⟩)]), (8, .int .i64 (n : Nat)), (9, .int .i64 (lo : Nat)), (10, .int .i64 (hi : Nat))] ∧
      H = [.vw A n 1 (flat (ic .u32) (Gt.ab cm D))]) n _ _ [0] ?_ ?_ ⟨0, n, by omega, by omega, rfl, h0a, h0b, rfl, rfl⟩ ?_
  · exact (by repeat (first | exact Sub.nil | refine Sub.cons rfl ?_ | refine Sub.consE rfl (int_eq (by omega)) ?_))
  · exact ⟨by decide, rfl⟩
  rintro mm τ H ⟨lo, hi, hlh, hhn, rfl, hlo, hhi, rfl, rfl⟩
  by_cases hlt : lo < hi
  · obtain ⟨k, hk⟩ : ∃ k : Nat, k = (lo + hi) / 2 := ⟨_, rfl⟩
    have hsh : Value.int .u64 (((lo : Int) + (hi : Int)) / 2 ^ 1) = .int .u64 (k : Nat) := by congr 1; omega
    obtain ⟨e, he⟩ : ∃ e, D[k]? = some e := ⟨_, List.getElem?_eq_getElem (by omega)⟩
    have hx := Gt.ab_get (c := cm) he
    refine WC.vwAt 0 rfl (by omega) fun b1 o1 hA => ?_
    subst hA
    by_cases hed : e < Gt.ds cm t
    · have cq := hcq k e (-1) he (if_pos hed)
      repeat' (first
    | refine goS ?_
    | ((with_reducible refine WL.isN_bin ?_); first | refine WL.yld rfl (Yld.shr 1 rfl rfl rfl rfl hsh) ?_ | refine WL.yld rfl binQ ?_)
    | ((with_reducible refine WL.isN_load ?_); first | refine WL.yld rfl (Yld.load rfl rfl rfl rfl (CellAt.vwE 0 rfl (ic_get hx) (by omega))) ?_ | refine WL.yld rfl loadQ ?_)
    | ((with_reducible refine WL.isN_iaddr ?_); first | refine WL.yld rfl (Yld.indexS k rfl rfl rfl rfl rfl rfl (by omega)) ?_ | refine WL.yld rfl iaddrQ ?_)
    | ((with_reducible refine WL.isN_conv ?_); first | refine WL.yld rfl (Yld.convInt rfl rfl rfl rfl (nU64 (by omega))) ?_ | refine WL.yld rfl convQ ?_)
    | ((with_reducible refine WL.isN_call ?_); first | refine WL.step rfl (StepTo.callV (v := .int .i64 (-1)) (us := [.int .u32 (Gt.up cm e), .int .u32 t, .pointer (some ⟨g, 0, none⟩)]) rfl rfl rfl rfl rfl (by kernel_rfl) (fun w hw => cq w hw.ext.below) ?_) | refine WL.yld rfl lenQ ?_)
    | with_reducible refine WC.block ?_
    | (refine WC.cond rfl (fun hc => ?_) (fun hc => ?_) <;> (try first | (with_reducible replace hc := of_decide_eq_true hc) | (with_reducible replace hc := of_decide_eq_false hc) | (with_reducible replace hc := eqT hc) | (with_reducible replace hc := eqF hc) | (with_reducible replace hc := neT hc) | (with_reducible replace hc := neF hc) | (with_reducible replace hc := noT hc) | (with_reducible replace hc := noF hc)) <;> (try (exfalso; omega))))
      exact WQ.rnd (hi - (k + 1)) _ _ [0] (by repeat (first | exact Sub.nil | refine Sub.cons rfl ?_ | refine Sub.consE rfl (int_eq (by omega)) ?_)) ⟨by decide, rfl⟩ (by omega) ⟨k + 1, hi, by omega, by omega, rfl, fun i x hi2 hx2 => by
        rcases Nat.lt_or_ge i k with h | h
        · obtain ⟨h3, rfl⟩ := List.getElem?_eq_some_iff.1 hx2
          obtain ⟨h5, e5⟩ := List.getElem?_eq_some_iff.1 he
          have := List.pairwise_iff_getElem.1 hD i k h3 h5 h
          omega
        · obtain rfl : i = k := by omega
          rw [he] at hx2
          injection hx2 with hx2
          omega, hhi, rfl, rfl⟩
    · have hge : ∀ i x, k ≤ i → D[i]? = some x → Gt.ds cm t ≤ x := fun i x hi2 hx2 => by
        rcases Nat.eq_or_lt_of_le hi2 with h | h
        · subst h
          rw [he] at hx2
          injection hx2 with hx2
          omega
        · obtain ⟨h3, rfl⟩ := List.getElem?_eq_some_iff.1 hx2
          obtain ⟨h5, e5⟩ := List.getElem?_eq_some_iff.1 he
          have := List.pairwise_iff_getElem.1 hD k i h5 h3 h
          omega
      obtain ⟨r, hr0, hr⟩ : ∃ r : Int, 0 ≤ r ∧ (if e < Gt.ds cm t then -1 else if e = Gt.ds cm t then 0 else 1) = r := by
        rw [if_neg hed]
        by_cases h : e = Gt.ds cm t
        · exact ⟨0, by omega, if_pos h⟩
        · exact ⟨1, by omega, if_neg h⟩
      have cq := hcq k e r he hr
      repeat' (first
    | refine goS ?_
    | ((with_reducible refine WL.isN_bin ?_); first | refine WL.yld rfl (Yld.shr 1 rfl rfl rfl rfl hsh) ?_ | refine WL.yld rfl binQ ?_)
    | ((with_reducible refine WL.isN_load ?_); first | refine WL.yld rfl (Yld.load rfl rfl rfl rfl (CellAt.vwE 0 rfl (ic_get hx) (by omega))) ?_ | refine WL.yld rfl loadQ ?_)
    | ((with_reducible refine WL.isN_iaddr ?_); first | refine WL.yld rfl (Yld.indexS k rfl rfl rfl rfl rfl rfl (by omega)) ?_ | refine WL.yld rfl iaddrQ ?_)
    | ((with_reducible refine WL.isN_conv ?_); first | refine WL.yld rfl (Yld.convInt rfl rfl rfl rfl (nU64 (by omega))) ?_ | refine WL.yld rfl convQ ?_)
    | ((with_reducible refine WL.isN_call ?_); first | refine WL.step rfl (StepTo.callV (v := .int .i64 r) (us := [.int .u32 (Gt.up cm e), .int .u32 t, .pointer (some ⟨g, 0, none⟩)]) rfl rfl rfl rfl rfl (by kernel_rfl) (fun w hw => cq w hw.ext.below) ?_) | refine WL.yld rfl lenQ ?_)
    | with_reducible refine WC.block ?_
    | (refine WC.cond rfl (fun hc => ?_) (fun hc => ?_) <;> (try first | (with_reducible replace hc := of_decide_eq_true hc) | (with_reducible replace hc := of_decide_eq_false hc) | (with_reducible replace hc := eqT hc) | (with_reducible replace hc := eqF hc) | (with_reducible replace hc := neT hc) | (with_reducible replace hc := neF hc) | (with_reducible replace hc := noT hc) | (with_reducible replace hc := noF hc)) <;> (try (exfalso; omega))))
      exact WQ.rnd (k - lo) _ _ [0] (by repeat (first | exact Sub.nil | refine Sub.cons rfl ?_ | refine Sub.consE rfl (int_eq (by omega)) ?_)) ⟨by decide, rfl⟩ (by omega) ⟨lo, k, by omega, by omega, rfl, hlo, hge, rfl, rfl⟩
  obtain rfl : hi = lo := by omega
  have hpe : hi = Gt.pos D (Gt.ds cm t) := Gt.at_one ⟨by omega, hlo, hhi⟩ hP
  by_cases hin : hi < n
  · obtain ⟨e, he⟩ : ∃ e, D[hi]? = some e := ⟨_, List.getElem?_eq_getElem (by omega)⟩
    have hx := Gt.ab_get (c := cm) he
    have hged := hhi hi e (Nat.le_refl _) he
    refine WC.vwAt 0 rfl (by omega) fun b1 o1 hA => ?_
    subst hA
    by_cases hed : e = Gt.ds cm t
    · have hct : D.contains (Gt.ds cm t) = true := by simpa using (Gt.at_mem hD (hpe ▸ hP)).2 (by rw [he, hed])
      rw [hct, ← hpe]
      have cq := hcq hi e 0 he (by rw [if_neg (by omega), if_pos hed])
      repeat' (first
    | refine goS ?_
    | ((with_reducible refine WL.isN_bin ?_); first | refine WL.yld rfl binQ ?_)
    | ((with_reducible refine WL.isN_load ?_); first | refine WL.yld rfl (Yld.load rfl rfl rfl rfl (CellAt.vwE 0 rfl (ic_get hx) (by omega))) ?_ | refine WL.yld rfl loadQ ?_)
    | ((with_reducible refine WL.isN_iaddr ?_); first | refine WL.yld rfl (Yld.indexS hi rfl rfl rfl rfl rfl rfl (by omega)) ?_ | refine WL.yld rfl iaddrQ ?_)
    | ((with_reducible refine WL.isN_conv ?_); first | refine WL.yld rfl convQ ?_)
    | ((with_reducible refine WL.isN_call ?_); first | refine WL.step rfl (StepTo.callV (v := .int .i64 0) (us := [.int .u32 (Gt.up cm e), .int .u32 t, .pointer (some ⟨g, 0, none⟩)]) rfl rfl rfl rfl rfl (by kernel_rfl) (fun w hw => cq w hw.ext.below) ?_) | refine WL.yld rfl lenQ ?_)
    | with_reducible refine WC.block ?_
    | (refine WC.cond rfl (fun hc => ?_) (fun hc => ?_) <;> (try first | (with_reducible replace hc := of_decide_eq_true hc) | (with_reducible replace hc := of_decide_eq_false hc) | (with_reducible replace hc := eqT hc) | (with_reducible replace hc := eqF hc) | (with_reducible replace hc := neT hc) | (with_reducible replace hc := neF hc) | (with_reducible replace hc := noT hc) | (with_reducible replace hc := noF hc)) <;> (try (exfalso; omega))))
      exact WQ.body (Reads.tmp2 rfl rfl rfl) fun w' hw' => ⟨rfl, hw'.ext.below⟩
    · have hct : D.contains (Gt.ds cm t) = false := by
        have h1 : Gt.ds cm t ∉ D := fun h => by
          have := (Gt.at_mem hD (hpe ▸ hP)).1 h
          rw [he] at this
          exact hed (Option.some.inj this)
        simpa using h1
      rw [hct, ← hpe]
      have cq := hcq hi e 1 he (by rw [if_neg (by omega), if_neg hed])
      repeat' (first
    | refine goS ?_
    | ((with_reducible refine WL.isN_bin ?_); first | refine WL.yld rfl binQ ?_)
    | ((with_reducible refine WL.isN_load ?_); first | refine WL.yld rfl (Yld.load rfl rfl rfl rfl (CellAt.vwE 0 rfl (ic_get hx) (by omega))) ?_ | refine WL.yld rfl loadQ ?_)
    | ((with_reducible refine WL.isN_iaddr ?_); first | refine WL.yld rfl (Yld.indexS hi rfl rfl rfl rfl rfl rfl (by omega)) ?_ | refine WL.yld rfl iaddrQ ?_)
    | ((with_reducible refine WL.isN_conv ?_); first | refine WL.yld rfl convQ ?_)
    | ((with_reducible refine WL.isN_call ?_); first | refine WL.step rfl (StepTo.callV (v := .int .i64 1) (us := [.int .u32 (Gt.up cm e), .int .u32 t, .pointer (some ⟨g, 0, none⟩)]) rfl rfl rfl rfl rfl (by kernel_rfl) (fun w hw => cq w hw.ext.below) ?_) | refine WL.yld rfl lenQ ?_)
    | with_reducible refine WC.block ?_
    | (refine WC.cond rfl (fun hc => ?_) (fun hc => ?_) <;> (try first | (with_reducible replace hc := of_decide_eq_true hc) | (with_reducible replace hc := of_decide_eq_false hc) | (with_reducible replace hc := eqT hc) | (with_reducible replace hc := eqF hc) | (with_reducible replace hc := neT hc) | (with_reducible replace hc := neF hc) | (with_reducible replace hc := noT hc) | (with_reducible replace hc := noF hc)) <;> (try (exfalso; omega))))
      exact WQ.body (Reads.tmp2 rfl rfl rfl) fun w' hw' => ⟨rfl, hw'.ext.below⟩
  · have hct : D.contains (Gt.ds cm t) = false := by
      have h1 : Gt.ds cm t ∉ D := fun h => by
        have := (Gt.at_mem hD (hpe ▸ hP)).1 h
        rw [List.getElem?_eq_none (by omega)] at this
        cases this
      simpa using h1
    rw [hct, ← hpe]
    repeat' (first
    | refine goS ?_
    | ((with_reducible refine WL.isN_bin ?_); first | refine WL.yld rfl binQ ?_)
    | ((with_reducible refine WL.isN_load ?_); first | refine WL.yld rfl loadQ ?_)
    | ((with_reducible refine WL.isN_iaddr ?_); first | refine WL.yld rfl iaddrQ ?_)
    | ((with_reducible refine WL.isN_conv ?_); first | refine WL.yld rfl convQ ?_)
    | ((with_reducible refine WL.isN_call ?_); first | refine WL.yld rfl lenQ ?_)
    | with_reducible refine WC.block ?_
    | (refine WC.cond rfl (fun hc => ?_) (fun hc => ?_) <;> (try first | (with_reducible replace hc := of_decide_eq_true hc) | (with_reducible replace hc := of_decide_eq_false hc) | (with_reducible replace hc := eqT hc) | (with_reducible replace hc := eqF hc) | (with_reducible replace hc := neT hc) | (with_reducible replace hc := neF hc) | (with_reducible replace hc := noT hc) | (with_reducible replace hc := noF hc)) <;> (try (exfalso; omega))))
    exact WQ.body (Reads.tmp2 rfl rfl rfl) fun w' hw' => ⟨rfl, hw'.ext.below⟩
/-- A Got. -/
def gv (c : Int) (A : Option Addr) (n k : Nat) (B : Option Addr) (m l : Nat) : Value := .agg #[.int .u32 c, .slice A n k, .slice B m l]
theorem place_q (A : Option Addr) (n k : Nat) (cm t : Int) (D : List Nat) (B : Option Addr) (m l : Nat) (w : World) (hL : Lst (ic .u32) 1 w w.heap.size A n (Gt.ab cm D)) (hn : n ≤ 1000000) (hD : D.Pairwise (· < ·)) (h4 : ∀ d ∈ D, d < 4294967296) :
    Calls Try.prog 31 #[gv cm A n k B m l, .int .u32 t] w
      fun e w' => e = .returned (.tuple #[.int .i64 (Gt.pos D (Gt.ds cm t) : Nat), .bool (D.contains (Gt.ds cm t))]) ∧ Below w.heap.size w w' := by
  refine enterW (fun _ => False) _ Try.func31 rfl (by simp only [Try.ntmps31, List.length_cons, List.length_nil, Nat.reduceAdd, Nat.reduceSub]; rfl) ?_
  refine WC.addVw (ic_len .u32) hL ?_
  repeat' (first
    | refine goS ?_
    | ((with_reducible refine WL.isN_load ?_); first | refine WL.yld rfl loadQ ?_)
    | ((with_reducible refine WL.isN_box ?_); first | refine WL.step rfl (StepTo.boxA rfl rfl rfl rfl (fun _ => ?_)) | refine WL.step rfl (StepTo.box1 rfl rfl rfl rfl rfl (fun _ => ?_)))
    | with_reducible refine WC.block ?_
    | (refine WC.cond rfl (fun hc => ?_) (fun hc => ?_) <;> (try first | (with_reducible replace hc := of_decide_eq_true hc) | (with_reducible replace hc := of_decide_eq_false hc) | (with_reducible replace hc := eqT hc) | (with_reducible replace hc := eqF hc) | (with_reducible replace hc := neT hc) | (with_reducible replace hc := neF hc) | (with_reducible replace hc := noT hc) | (with_reducible replace hc := noF hc)) <;> (try (exfalso; omega))))
  rename_i b2
  refine WL.step rfl (StepTo.callV (v := .tuple #[.int .i64 (Gt.pos D (Gt.ds cm t) : Nat), .bool (D.contains (Gt.ds cm t))]) (us := [.slice A n k, .int .u32 t, .func (.func 39) #[] #[.pointer (some ⟨b2, 0, none⟩)]]) rfl rfl rfl rfl rfl (by kernel_rfl) (fun w hw => search_q A n k cm t D b2 (.slice A n k) (.slice B m l) w (hw.lst 1 (ic_len .u32) (by omega) rfl) hn hD h4 (inp_box hw 0 rfl)) ?_)
  repeat' (first
    | refine goS ?_
    | ((with_reducible refine WL.isN_load ?_); first | refine WL.yld rfl loadQ ?_)
    | ((with_reducible refine WL.isN_box ?_); first | refine WL.step rfl (StepTo.boxA rfl rfl rfl rfl (fun _ => ?_)) | refine WL.step rfl (StepTo.box1 rfl rfl rfl rfl rfl (fun _ => ?_)))
    | with_reducible refine WC.block ?_
    | (refine WC.cond rfl (fun hc => ?_) (fun hc => ?_) <;> (try first | (with_reducible replace hc := of_decide_eq_true hc) | (with_reducible replace hc := of_decide_eq_false hc) | (with_reducible replace hc := eqT hc) | (with_reducible replace hc := eqF hc) | (with_reducible replace hc := neT hc) | (with_reducible replace hc := neF hc) | (with_reducible replace hc := noT hc) | (with_reducible replace hc := noF hc)) <;> (try (exfalso; omega))))
  exact WQ.body (Reads.tmp2 rfl rfl rfl) fun w' hw' => ⟨rfl, hw'.ext.below⟩
theorem has_q (A : Option Addr) (n k : Nat) (cm t : Int) (D : List Nat) (B : Option Addr) (m l : Nat) (w : World) (hL : Lst (ic .u32) 1 w w.heap.size A n (Gt.ab cm D)) (hn : n ≤ 1000000) (hD : D.Pairwise (· < ·)) (h4 : ∀ d ∈ D, d < 4294967296) (ht : 0 ≤ t ∧ t < 4294967296) (hc : 0 ≤ cm ∧ cm < 4294967296) :
    Calls Try.prog 16 #[gv cm A n k B m l, .int .u32 t] w fun e w' => e = .returned (.bool (Gt.has D (Gt.ds cm t))) ∧ Below w.heap.size w w' := by
  have hp := fun w hL => place_q A n k cm t D B m l w hL hn hD h4
  unfold Gt.has
  cases hct : D.contains (Gt.ds cm t) with
  | true =>
    rw [hct] at hp
    rw [Bool.or_true]
    refine enterW (fun _ => False) _ Try.func16 rfl (by simp only [Try.ntmps16, List.length_cons, List.length_nil, Nat.reduceAdd, Nat.reduceSub]; rfl) ?_
    refine WC.addVw (ic_len .u32) hL ?_
    repeat' (first
    | refine goS ?_
    | ((with_reducible refine WL.isN_bin ?_); first | refine WL.yld rfl binQ ?_)
    | ((with_reducible refine WL.isN_load ?_); first | refine WL.yld rfl loadQ ?_)
    | ((with_reducible refine WL.isN_call ?_); first | refine WL.step rfl (StepTo.callV (v := .tuple #[.int .i64 (Gt.pos D (Gt.ds cm t) : Nat), .bool true]) (us := [gv cm A n k B m l, .int .u32 t]) rfl rfl rfl rfl rfl (by kernel_rfl) (fun w hw => hp w (hw.lst 1 (ic_len .u32) (by omega) rfl)) ?_))
    | ((with_reducible refine WL.isN_box ?_); first | refine WL.step rfl (StepTo.boxA rfl rfl rfl rfl (fun _ => ?_)) | refine WL.step rfl (StepTo.box1 rfl rfl rfl rfl rfl (fun _ => ?_)))
    | with_reducible refine WC.block ?_
    | (refine WC.cond rfl (fun hc => ?_) (fun hc => ?_) <;> (try first | (with_reducible replace hc := of_decide_eq_true hc) | (with_reducible replace hc := of_decide_eq_false hc) | (with_reducible replace hc := eqT hc) | (with_reducible replace hc := eqF hc) | (with_reducible replace hc := neT hc) | (with_reducible replace hc := neF hc) | (with_reducible replace hc := noT hc) | (with_reducible replace hc := noF hc)) <;> (try (exfalso; omega))))
    exact WQ.body (Reads.tmp rfl rfl) fun w' hw' => ⟨rfl, hw'.ext.below⟩
  | false =>
    rw [hct] at hp
    rw [Bool.or_false]
    have hf := Gt.far_iff cm t
    have hs : (0 ≤ sdd (cm - t)) ↔ (cm - t) % 4294967296 < 2147483648 := by rw [sdd_eq]; omega
    have hdd : decide (sdd (cm - t) ≥ 0) = (decide (Gt.ds cm t = 0) || decide (2147483648 < Gt.ds cm t)) := by
      rw [Bool.eq_iff_iff]
      simp only [Bool.or_eq_true, decide_eq_true_eq]
      exact Iff.trans hs hf
    rw [← hdd]
    refine enterW (fun _ => False) _ Try.func16 rfl (by simp only [Try.ntmps16, List.length_cons, List.length_nil, Nat.reduceAdd, Nat.reduceSub]; rfl) ?_
    refine WC.addVw (ic_len .u32) hL ?_
    repeat' (first
    | refine goS ?_
    | ((with_reducible refine WL.isN_bin ?_); first | refine WL.yld rfl binQ ?_)
    | ((with_reducible refine WL.isN_load ?_); first | refine WL.yld rfl loadQ ?_)
    | ((with_reducible refine WL.isN_call ?_); first | refine WL.step rfl (StepTo.callV (v := .tuple #[.int .i64 (Gt.pos D (Gt.ds cm t) : Nat), .bool false]) (us := [gv cm A n k B m l, .int .u32 t]) rfl rfl rfl rfl rfl (by kernel_rfl) (fun w hw => hp w (hw.lst 1 (ic_len .u32) (by omega) rfl)) ?_) | refine WL.step rfl (StepTo.callV (v := .int .i64 (sdd (cm - t))) (us := [.int .u32 t, .int .u32 cm]) rfl rfl rfl rfl rfl (by kernel_rfl) (fun w hw => gdist_q t cm w) ?_))
    | ((with_reducible refine WL.isN_box ?_); first | refine WL.step rfl (StepTo.boxA rfl rfl rfl rfl (fun _ => ?_)) | refine WL.step rfl (StepTo.box1 rfl rfl rfl rfl rfl (fun _ => ?_)))
    | with_reducible refine WC.block ?_
    | (refine WC.cond rfl (fun hc => ?_) (fun hc => ?_) <;> (try first | (with_reducible replace hc := of_decide_eq_true hc) | (with_reducible replace hc := of_decide_eq_false hc) | (with_reducible replace hc := eqT hc) | (with_reducible replace hc := eqF hc) | (with_reducible replace hc := neT hc) | (with_reducible replace hc := neF hc) | (with_reducible replace hc := noT hc) | (with_reducible replace hc := noF hc)) <;> (try (exfalso; omega))))
    refine WQ.body (v := .bool (decide (sdd (cm - t) ≥ 0))) (Reads.tmp rfl rfl) ?_
    exact fun w' hw' => ⟨rfl, hw'.ext.below⟩
end Go.Proofs.Ythbhjnmkbmmcnaa
