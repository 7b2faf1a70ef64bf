/- Stores into an element of a row, its cells written out, over symbolic states. Of whatever program. -/
import Derived.Test.YthbhjnmkbmmcnaaDel
import Derived.Test.YthbhjnmkbmmcnaaHg
namespace Go.Proofs.Ythbhjnmkbmmcnaa
open Go.RowKit Go.IntWalk
set_option linter.unusedVariables false
set_option linter.unusedSectionVars false

/-- Cells with others from a place on. -/
def spl (xs : List Value) (o : Nat) (vs : List Value) : List Value := xs.take o ++ vs ++ xs.drop (o + vs.length)
theorem spl_get {xs vs : List Value} {o : Nat} (h : o + vs.length ≤ xs.length) (i : Nat) : (spl xs o vs)[i]? = if i < o then xs[i]? else if i < o + vs.length then vs[i - o]? else xs[i]? := by
  have hl : (xs.take o).length = o := by rw [List.length_take]; omega
  unfold spl
  rw [List.append_assoc, List.getElem?_append, hl]
  split
  · rename_i hi
    rw [List.getElem?_take, if_pos hi]
  · rw [List.getElem?_append]
    split
    · rw [if_pos (by omega)]
    · rw [if_neg (by omega), List.getElem?_drop]
      congr 1
      omega
theorem spl_len {xs vs : List Value} {o : Nat} (h : o + vs.length ≤ xs.length) : (spl xs o vs).length = xs.length := by unfold spl; simp; omega
/-- Cells that are as they were, but for a part. -/
def Out (xs ys : List Value) (o k : Nat) : Prop := ys.length = xs.length ∧ ∀ j, (j < o ∨ o + k ≤ j) → ys[j]? = xs[j]?
theorem Out.refl {xs : List Value} {o k : Nat} : Out xs xs o k := ⟨rfl, fun _ _ => rfl⟩
theorem Out.trans {xs ys zs : List Value} {o k : Nat} (h : Out xs ys o k) (h' : Out ys zs o k) : Out xs zs o k := ⟨h'.1.trans h.1, fun j hj => (h'.2 j hj).trans (h.2 j hj)⟩
theorem over_get {cs vs cs' : List Value} {j : Nat} (h : OverAt cs j vs cs') (q : Nat) : cs'[q]? = if q < j then cs[q]? else if q < j + vs.length then vs[q - j]? else cs[q]? := by
  rw [← h.eq, over_eq cs j vs h.fits]
  exact spl_get h.fits q
theorem part_len {xs cs : List Value} {o : Nat} (h : PartAt xs o cs) (h0 : 0 < cs.length) : o + cs.length ≤ xs.length := by
  have := h (cs.length - 1) cs[cs.length - 1] (List.getElem?_eq_getElem (by omega))
  have := (List.getElem?_eq_some_iff.1 this).1
  omega
theorem part_spl {xs cs cs' vs : List Value} {o j : Nat} (h : PartAt xs o cs) (h0 : 0 < cs.length) (hf : OverAt cs j vs cs') : PartAt (spl xs (o + j) vs) o cs' ∧ Out xs (spl xs (o + j) vs) o cs.length ∧ (o + j) + vs.length ≤ xs.length := by
  have hl := part_len h h0
  have hfit := hf.fits
  have hb : (o + j) + vs.length ≤ xs.length := by omega
  refine ⟨fun q u hu => ?_, ⟨spl_len hb, fun i hi => ?_⟩, hb⟩
  · rw [spl_get hb]
    rw [over_get hf] at hu
    by_cases h1 : q < j
    · rw [if_pos h1] at hu
      rw [if_pos (by omega)]
      exact h q u hu
    · rw [if_neg h1] at hu
      rw [if_neg (by omega)]
      by_cases h2 : q < j + vs.length
      · rw [if_pos h2] at hu
        rw [if_pos (by omega), show o + q - (o + j) = q - j from by omega]
        exact hu
      · rw [if_neg h2] at hu
        rw [if_neg (by omega)]
        exact h q u hu
  · rw [spl_get hb]
    split
    · rfl
    · rw [if_neg (by omega)]
/-- What an element of a row turned to. -/
theorem flat_out {α : Type} {enc : α → List Value} {k : Nat} (hk : ∀ x, (enc x).length = k) {xs : List α} {ys : List Value} {i : Nat} {x : α} (hi : i < xs.length) (h : Out (flat enc xs) ys (i * k) k) (hp : PartAt ys (i * k) (enc x)) : ys = flat enc (xs.set i x) := by
  have hl := flat_len hk xs
  have hl2 := flat_len hk (xs.set i x)
  rw [List.length_set] at hl2
  have hxi : (xs.set i x)[i]? = some x := List.getElem?_set_self hi
  have hpi := PartAt.flat (enc := enc) hk hxi
  have hi1 : (i + 1) * k ≤ xs.length * k := Nat.mul_le_mul_right k hi
  rw [Nat.succ_mul] at hi1
  apply List.ext_getElem?
  intro j
  by_cases h1 : i * k ≤ j ∧ j < i * k + k
  · obtain ⟨q, rfl⟩ := Nat.exists_eq_add_of_le h1.1
    have hq : q < (enc x).length := by rw [hk]; omega
    rw [hp q _ (List.getElem?_eq_getElem hq), hpi q _ (List.getElem?_eq_getElem hq)]
  · rw [h.2 j (by omega)]
    by_cases hj : j < xs.length * k
    · have hk0 : 0 < k := by
        rcases Nat.eq_zero_or_pos k with h0 | h0
        · rw [h0, Nat.mul_zero] at hj; omega
        · exact h0
      have hjk : j / k * k + j % k = j := by rw [Nat.mul_comm]; exact Nat.div_add_mod j k
      have hr : j % k < k := Nat.mod_lt _ hk0
      have hd : j / k < xs.length := Nat.div_lt_of_lt_mul (by rw [Nat.mul_comm]; exact hj)
      have hne : j / k ≠ i := fun e => by
        rw [e] at hjk
        omega
      have a1 := flat_get hk xs (j / k) hd (j % k) hr
      have a2 := flat_get hk (xs.set i x) (j / k) (by rw [List.length_set]; exact hd) (j % k) hr
      rw [hjk] at a1 a2
      rw [a1, a2]
      congr 2
      rw [List.getElem_set, if_neg (fun e => hne e.symm)]
    · rw [List.getElem?_eq_none (by omega), List.getElem?_eq_none (by omega)]
theorem outQ {xs ys : List Value} {o k : Nat} (h : Out xs ys o k := by repeat (first | assumption | exact Out.refl | refine Out.trans (by assumption) ?_)) : Out xs ys o k := h
theorem CellsAt.at0 {w0 : World} {D : Nat → Prop} {H : List Item} {b o : Nat} {u : Value} {r : List Value} (h : CellsAt w0 D H b o (u :: r)) : CellAt w0 D H b o u := fun w hw => by
  have := h w hw 0 u rfl
  rwa [Nat.add_zero] at this
section
variable {w0 : World} {D : Nat → Prop} {H : List Item}
/-- Cells of a struct in an element of a row, or of a view. -/
theorem AggAt.rowPP (i p : Nat) {b m c t k o' q : Nat} {xs vs us : List Value} (hi : H[i]? = some (.row (some ⟨b, 0, none⟩) m c t k xs)) (hp : PartAt xs o' vs) (hc : cut vs p q = some us) : AggAt w0 D H b (0 + o' + p) q us :=
  ⟨(cut_get _ _ _ _ hc).1, fun w hw j u hu => by
    have := CellAt.rowP (w0 := w0) (D := D) i hi hp ((cut_get _ _ _ _ hc).2 j u hu) w hw
    rwa [← Nat.add_assoc] at this⟩
theorem CellAt.vwPP (i p : Nat) {b off m k o' j : Nat} {xs vs : List Value} {v : Value} (hi : H[i]? = some (.vw (some ⟨b, off, none⟩) m k xs)) (hm : 0 < m) (hp : PartAt xs o' vs) (hj : vs[p + j]? = some v) : CellAt w0 D H b (off + o' + p + j) v := by
  have := CellAt.vwP (w0 := w0) (D := D) i hi hm hp hj
  rwa [← Nat.add_assoc] at this
theorem AggAt.vwPP (i p : Nat) {b off m k o' q : Nat} {xs vs us : List Value} (hi : H[i]? = some (.vw (some ⟨b, off, none⟩) m k xs)) (hm : 0 < m) (hp : PartAt xs o' vs) (hc : cut vs p q = some us) : AggAt w0 D H b (off + o' + p) q us :=
  ⟨(cut_get _ _ _ _ hc).1, fun w hw j u hu => CellAt.vwPP i p hi hm hp ((cut_get _ _ _ _ hc).2 j u hu) w hw⟩
end
section
variable {P : Program} {w0 : World} {D : Nat → Prop} {n : Nat} [Dfr] {Q : Exit → Act → World → Prop} {τ : Tm} {H : List Item} {ops : Array Oper} {o : Oper} {l : List Oper} {v v' : Value} {K : Tm → List Item → Prop}
/-- A store of one cell into an element of a row. -/
theorem StepTo.stRW {T : TypeId} {x y : Operand} {b off p j t k m c : Nat} {xs cs cs' : List Value} (i : Nat) (ho : o.op = .store T x y) (hdn : o.dst = none) (hx : evl τ x = some (.pointer (some ⟨b, off, none⟩))) (hy : evl τ y = some v)
    (hv : v.cells.toList = [v]) (hs : (P.info? T).map (·.size) = some 1) (h1 : v.oneCell' = true) (hi : H[i]? = some (.row (some ⟨b, 0, none⟩) m c t k xs)) (hp : PartAt xs p cs) (hoff : off = p + j) (hf : OverAt cs j [v] cs')
    (hK : ∀ ys, PartAt ys p cs' → Out xs ys p cs.length → ∃ H2, SetAt H i (.row (some ⟨b, 0, none⟩) m c t k ys) H2 ∧ K τ H2) : StepTo P w0 D n o τ H K := by
  subst hoff
  have h0 : 0 < cs.length := by have := hf.fits; simp at this; omega
  obtain ⟨q1, q2, q3⟩ := part_spl hp h0 hf
  obtain ⟨H2, hH, hK⟩ := hK _ q1 q2
  have e : spl xs (p + j) [v] = xs.set (p + j) v := by
    apply List.ext_getElem?
    intro a
    rw [spl_get q3, List.getElem?_set]
    simp only [List.length_singleton] at q3 ⊢
    by_cases h1 : p + j = a
    · subst h1
      rw [if_neg (by omega), if_pos (by omega), if_pos rfl, if_pos (by omega), Nat.sub_self]
      rfl
    · rw [if_neg h1]
      split
      · rfl
      · rw [if_neg (by omega)]
  rw [e] at hH
  exact StepTo.storeRow i ho hdn hx hy hv hs h1 hi (by simp only [List.length_singleton] at q3; omega) hH hK
/-- A store of a struct into an element of a row, or of the whole element. -/
theorem StepTo.stRWA {T : TypeId} {x y : Operand} {b off p j t k m c kk : Nat} {xs cs cs' vs : List Value} (i : Nat) (ho : o.op = .store T x y) (hdn : o.dst = none) (hx : evl τ x = some (.pointer (some ⟨b, off, none⟩))) (hy : evl τ y = some (.agg vs.toArray))
    (hs : (P.info? T).map (·.size) = some kk) (hl : vs.length = kk) (hkk : Nat.blt 0 kk = true) (h1 : vs.all Value.oneCell' = true) (hi : H[i]? = some (.row (some ⟨b, 0, none⟩) m c t k xs)) (hp : PartAt xs p cs) (hoff : off = p + j) (hf : OverAt cs j vs cs')
    (hK : ∀ ys, PartAt ys p cs' → Out xs ys p cs.length → ∃ H2, SetAt H i (.row (some ⟨b, 0, none⟩) m c t k ys) H2 ∧ K τ H2) : StepTo P w0 D n o τ H K := by
  subst hoff
  have hk0 : 0 < kk := by simpa [Nat.blt, Nat.succ_le_iff] using hkk
  have h0 : 0 < cs.length := by have := hf.fits; omega
  obtain ⟨q1, q2, q3⟩ := part_spl hp h0 hf
  obtain ⟨H2, hH, hK⟩ := hK _ q1 q2
  exact StepTo.storeRowA i ho hdn hx hy hs hl (by simpa using h1) hi q3 rfl hH hK
/-- The same, the address spelled as the walk spells it. -/
theorem StepTo.sRW {T : TypeId} {x y : Operand} {b p j t k m c : Nat} {xs cs cs' : List Value} (i : Nat) (ho : o.op = .store T x y) (hdn : o.dst = none) (hx : evl τ x = some (.pointer (some ⟨b, 0 + p + j, none⟩))) (hy : evl τ y = some v)
    (hv : v.cells.toList = [v]) (hs : (P.info? T).map (·.size) = some 1) (h1 : v.oneCell' = true) (hi : H[i]? = some (.row (some ⟨b, 0, none⟩) m c t k xs)) (hp : PartAt xs p cs) (hk : cs.length = k) (hf : OverAt cs j [v] cs')
    (hK : ∀ ys, PartAt ys p cs' → Out xs ys p k → ∃ H2, SetAt H i (.row (some ⟨b, 0, none⟩) m c t k ys) H2 ∧ K τ H2) : StepTo P w0 D n o τ H K :=
  StepTo.stRW i ho hdn hx hy hv hs h1 hi hp (by omega) hf (fun ys h h' => hK ys h (hk ▸ h'))
theorem StepTo.sRWA {T : TypeId} {x y : Operand} {b p j t k m c kk : Nat} {xs cs cs' vs : List Value} (i : Nat) (ho : o.op = .store T x y) (hdn : o.dst = none) (hx : evl τ x = some (.pointer (some ⟨b, 0 + p + j, none⟩))) (hy : evl τ y = some (.agg vs.toArray))
    (hs : (P.info? T).map (·.size) = some kk) (hl : vs.length = kk) (hkk : Nat.blt 0 kk = true) (h1 : vs.all Value.oneCell' = true) (hi : H[i]? = some (.row (some ⟨b, 0, none⟩) m c t k xs)) (hp : PartAt xs p cs) (hk : cs.length = k) (hf : OverAt cs j vs cs')
    (hK : ∀ ys, PartAt ys p cs' → Out xs ys p k → ∃ H2, SetAt H i (.row (some ⟨b, 0, none⟩) m c t k ys) H2 ∧ K τ H2) : StepTo P w0 D n o τ H K :=
  StepTo.stRWA i ho hdn hx hy hs hl hkk h1 hi hp (by omega) hf (fun ys h h' => hK ys h (hk ▸ h'))
theorem StepTo.sRW0 {T : TypeId} {x y : Operand} {b p t k m c kk : Nat} {xs cs vs : List Value} (i : Nat) (ho : o.op = .store T x y) (hdn : o.dst = none) (hx : evl τ x = some (.pointer (some ⟨b, 0 + p, none⟩))) (hy : evl τ y = some (.agg vs.toArray))
    (hs : (P.info? T).map (·.size) = some kk) (hl : vs.length = kk) (hkk : Nat.blt 0 kk = true) (h1 : vs.all Value.oneCell' = true) (hi : H[i]? = some (.row (some ⟨b, 0, none⟩) m c t k xs)) (hp : PartAt xs p cs) (hk : cs.length = k) (hf : OverAt cs 0 vs vs)
    (hK : ∀ ys, PartAt ys p vs → Out xs ys p k → ∃ H2, SetAt H i (.row (some ⟨b, 0, none⟩) m c t k ys) H2 ∧ K τ H2) : StepTo P w0 D n o τ H K :=
  StepTo.stRWA i ho hdn hx hy hs hl hkk h1 hi hp (by omega) hf (fun ys h h' => hK ys h (hk ▸ h'))
/-- Where ways meet, whatever comes next. -/
theorem WC.cutN {x : Code} (I : Tm → List Item → Prop) (h : WC P w0 D n x (Exit.then (Met w0 D n I) Q) τ H) (hr : ∀ τ H, I τ H → WQ w0 D n (Q .normal) τ H) : WC P w0 D n x Q τ H := ⟨fun a w ha hw =>
  wp_mono (h.go a w ha hw) fun e a w he => by
    cases e <;> first | (obtain ⟨τ, H, h1, h2, h3⟩ := he; exact (hr τ H h1).go a w h2 h3) | exact he⟩
/-- A call that is handed some items to write, and others that it only reads. -/
theorem Sat.aloneV {w : World} {HI C : List Item} {idx : List Nat} (hw : Sat w0 D H w) (hp : Pick idx H (HI ++ C)) (hm : ∀ it ∈ C, it.mine = false) : Sat w (Bs HI) (HI ++ C) w :=
  ⟨Ext.refl, (hw.pick hp).holds, fun it hit hmi b hb => by
    rcases List.mem_append.1 hit with h | h
    · exact .inr ⟨it, h, hb⟩
    · exact absurd hmi (by rw [hm it h]; decide), (hw.pick hp).apart⟩
end
end Go.Proofs.Ythbhjnmkbmmcnaa
