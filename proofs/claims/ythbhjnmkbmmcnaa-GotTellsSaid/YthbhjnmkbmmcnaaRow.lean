/- A variable as a row; rows of words. Of whatever program. -/
import Derived.Test.YthbhjnmkbmmcnaaBox
import Derived.Test.YthbhjnmkbmmcnaaWrd
namespace Go.Proofs.Ythbhjnmkbmmcnaa
open Go.RowKit Go.IntWalk
set_option linter.unusedVariables false
set_option linter.unusedSectionVars false

section
variable {P : Program} {w0 : World} {D : Nat → Prop} {n : Nat} [Dfr] {Q : Exit → Act → World → Prop} {Kq : Act → World → Prop} {τ : Tm} {H : List Item} {ops : Array Oper} {l : List Oper} {x : Code}
theorem WC.boxRow (i n' k : Nat) {b t : Nat} {cs : List Value} (hi : H[i]? = some (.box b t cs)) (hl : cs.length = n' * k) (hn : n' ≤ 4611686018427387904) (h : WC P w0 D n x Q τ (H.set i (.row (some ⟨b, 0, none⟩) n' n' t k cs))) : WC P w0 D n x Q τ H :=
  ⟨fun a w ha hw => h.go a w ha (hw.boxRow i hi hl hn)⟩
theorem WL.boxRow (i n' k : Nat) {b t : Nat} {cs : List Value} (hi : H[i]? = some (.box b t cs)) (hl : cs.length = n' * k) (hn : n' ≤ 4611686018427387904) (h : WL P w0 D n ops Q l τ (H.set i (.row (some ⟨b, 0, none⟩) n' n' t k cs))) : WL P w0 D n ops Q l τ H :=
  ⟨fun a w ha hw => h.go a w ha (hw.boxRow i hi hl hn)⟩
theorem WQ.boxRow (i n' k : Nat) {b t : Nat} {cs : List Value} (hi : H[i]? = some (.box b t cs)) (hl : cs.length = n' * k) (hn : n' ≤ 4611686018427387904) (h : WQ w0 D n Kq τ (H.set i (.row (some ⟨b, 0, none⟩) n' n' t k cs))) : WQ w0 D n Kq τ H :=
  ⟨fun a w ha hw => h.go a w ha (hw.boxRow i hi hl hn)⟩
/-- A cell of a row of mine is written. -/
theorem StepTo.stRE {o : Oper} {K : Tm → List Item → Prop} {v : Value} {T : TypeId} {y z : Operand} {b off t k m c q : Nat} {xs xs' : List Value} {H2 : List Item} (i : Nat) (ho : o.op = .store T y z) (hdn : o.dst = none) (hx : evl τ y = some (.pointer (some ⟨b, off, none⟩))) (hy : evl τ z = some v)
    (hv : v.cells.toList = [v]) (h1 : v.oneCell' = true) (hs : (P.info? T).map (·.size) = some 1) (hi : H[i]? = some (.row (some ⟨b, 0, none⟩) m c t k xs)) (hq : off = q) (hlt : q < xs.length) (e : xs.set q v = xs') (hset : SetAt H i (.row (some ⟨b, 0, none⟩) m c t k xs') H2) (hK : K τ H2) : StepTo P w0 D n o τ H K := by
  subst hq
  subst e
  exact StepTo.storeRow i ho hdn hx hy hv hs h1 hi hlt hset hK
end
/-- The cells of words. -/
def wc (x : BitVec 32) : List Value := [wv x]
theorem wc_len (x : BitVec 32) : (wc x).length = 1 := rfl
theorem flat_wc (l : List (BitVec 32)) : flat wc l = l.map wv := by
  induction l with
  | nil => rfl
  | cons c l ih => rw [flat_cons, ih]; rfl
theorem wc_one (x : BitVec 32) : ∀ u ∈ wc x, u.oneCell' = true := by intro u hu; simp [wc] at hu; subst hu; rfl
theorem wc_get {l : List (BitVec 32)} {i : Nat} {x : BitVec 32} (h : l[i]? = some x) : (flat wc l)[i]? = some (wv x) := by rw [flat_wc, List.getElem?_map, h]; rfl
theorem wc_set {l : List (BitVec 32)} {i : Nat} {x : BitVec 32} : (flat wc l).set i (wv x) = flat wc (l.set i x) := by rw [flat_wc, flat_wc, List.map_set]
end Go.Proofs.Ythbhjnmkbmmcnaa
