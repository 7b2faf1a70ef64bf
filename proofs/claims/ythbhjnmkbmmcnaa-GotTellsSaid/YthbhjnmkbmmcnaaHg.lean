/- Held regions whose effects are guarded, over symbolic states. Of whatever program. -/
import Derived.Test.YthbhjnmkbmmcnaaDraw
namespace Go.Proofs.Ythbhjnmkbmmcnaa
open Go.RowKit Go.IntWalk
set_option linter.unusedVariables false
set_option linter.unusedSectionVars false

/-- The operation is to run. -/
def Want (ops : Array Oper) (τ : Tm) (o : Oper) : Prop := o.guard = none ∨ ∃ j want b jt oj, o.guard = some (j, want) ∧ ops[j]? = some oj ∧ oj.dst = some jt ∧ look τ jt = some (.bool b) ∧ b = want
section
variable {P : Program} {w0 : World} {D : Nat → Prop} {n : Nat} [Dfr] {Q : Exit → Act → World → Prop} {τ : Tm} {H : List Item} {ops : Array Oper} {S : List Item}
theorem WA.op1 {i : Nat} {o : Oper} {fuel : Nat} {listed : Array Bool} {a : Act} {w : World} (hi : ops[i]? = some o) (hg : Want ops τ o)
    (h : StepTo P w0 D n o τ H fun τ' H' => (∃ idx, Pick idx H' S) ∧ WA P w0 D n ops S Q fuel (listed.setIfInBounds i true) τ' H') (ha : Has n τ a) (hw : Sat w0 D H w) :
    wpOp P ops (NoPanic Q) i (fun a' w' => Sat w0 D S w' ∧ wpAnyH P .any ops (NoPanic Q) (Sat w0 D S) fuel (listed.setIfInBounds i true) a' w') a w := by
  unfold wpOp
  simp only [hi]
  rw [if_pos (by
    rcases hg with hg | ⟨j, want, b, jt, oj, h1, h2, h3, h4, h5⟩
    · simp [Region.wanted, hg]
    · have hy : yielded ops a.tmps j = some b := by simp [yielded, h2, h3, ha.at_ jt _ h4]
      simp [Region.wanted, h1, hy, h5])]
  exact .inl (h.go _ _ (fun τ' H' ⟨⟨idx, hp⟩, hk⟩ a' w' ha' hw' => ⟨hw'.pick hp, hk.go a' w' ha' hw'⟩) a w ha hw)
theorem WA.oneW (i : Nat) {o : Oper} {fuel : Nat} {listed : Array Bool} (hr : Region.ready .any ops listed = [i]) (hi : ops[i]? = some o) (hg : Want ops τ o)
    (h : StepTo P w0 D n o τ H fun τ' H' => (∃ idx, Pick idx H' S) ∧ WA P w0 D n ops S Q fuel (listed.setIfInBounds i true) τ' H') : WA P w0 D n ops S Q (fuel + 1) listed τ H :=
  ⟨fun a w ha hw => wpAnyH_all hr (by simp) fun j hj => by
    obtain rfl : j = i := by simpa using hj
    exact WA.op1 hi hg h ha hw⟩
theorem WA.twoW (i j : Nat) {o u : Oper} {fuel : Nat} {listed : Array Bool} (hr : Region.ready .any ops listed = [i, j]) (hi : ops[i]? = some o) (hg : Want ops τ o) (hj : ops[j]? = some u) (hgj : Want ops τ u)
    (h : StepTo P w0 D n o τ H fun τ' H' => (∃ idx, Pick idx H' S) ∧ WA P w0 D n ops S Q fuel (listed.setIfInBounds i true) τ' H')
    (h2 : StepTo P w0 D n u τ H fun τ' H' => (∃ idx, Pick idx H' S) ∧ WA P w0 D n ops S Q fuel (listed.setIfInBounds j true) τ' H') : WA P w0 D n ops S Q (fuel + 1) listed τ H :=
  ⟨fun a w ha hw => wpAnyH_all hr (by simp) fun k hk => by
    have hk' : k = i ∨ k = j := by simpa using hk
    rcases hk' with rfl | rfl
    · exact WA.op1 hi hg h ha hw
    · exact WA.op1 hj hgj h2 ha hw⟩
/-! ### Stores that find their item -/
variable {o : Oper} {v : Value} {K : Tm → List Item → Prop}
theorem StepTo.st1 {T : TypeId} {x y : Operand} {b off t i : Nat} {cs cs' : List Value} {H2 : List Item} (ho : o.op = .store T x y) (hdn : o.dst = none) (hx : evl τ x = some (.pointer (some ⟨b, off, none⟩))) (hy : evl τ y = some v)
    (hs : (P.info? T).map (·.size) = some 1) (h1 : v.oneCell' = true) (hK : K τ H2) (hi : H[i]? = some (.box b t cs) := by first | exact (rfl : (_ : List Item)[0]? = _) | exact (rfl : (_ : List Item)[1]? = _) | exact (rfl : (_ : List Item)[2]? = _) | exact (rfl : (_ : List Item)[3]? = _) | exact (rfl : (_ : List Item)[4]? = _) | exact (rfl : (_ : List Item)[5]? = _) | exact (rfl : (_ : List Item)[6]? = _) | exact (rfl : (_ : List Item)[7]? = _) | exact (rfl : (_ : List Item)[8]? = _) | exact (rfl : (_ : List Item)[9]? = _) | exact (rfl : (_ : List Item)[10]? = _) | exact (rfl : (_ : List Item)[11]? = _) | exact (rfl : (_ : List Item)[12]? = _) | exact (rfl : (_ : List Item)[13]? = _))
    (hf : OverAt cs off [v] cs' := by repeat (first | exact OverAt.nil | apply OverAt.here | apply OverAt.skip)) (hH : SetAt H i (.box b t cs') H2 := by repeat (first | exact SetAt.zero | apply SetAt.succ)) : StepTo P w0 D n o τ H K :=
  StepTo.store1 i ho hdn hx hy hs h1 hi hf hH hK
theorem StepTo.stA {T : TypeId} {x y : Operand} {b off t m i : Nat} {cs vs cs' : List Value} {H2 : List Item} (ho : o.op = .store T x y) (hdn : o.dst = none) (hx : evl τ x = some (.pointer (some ⟨b, off, none⟩))) (hy : evl τ y = some (.agg vs.toArray))
    (hs : (P.info? T).map (·.size) = some m) (hl : vs.length = m) (h1 : vs.all Value.oneCell' = true) (hK : K τ H2) (hi : H[i]? = some (.box b t cs) := by first | exact (rfl : (_ : List Item)[0]? = _) | exact (rfl : (_ : List Item)[1]? = _) | exact (rfl : (_ : List Item)[2]? = _) | exact (rfl : (_ : List Item)[3]? = _) | exact (rfl : (_ : List Item)[4]? = _) | exact (rfl : (_ : List Item)[5]? = _) | exact (rfl : (_ : List Item)[6]? = _) | exact (rfl : (_ : List Item)[7]? = _) | exact (rfl : (_ : List Item)[8]? = _) | exact (rfl : (_ : List Item)[9]? = _) | exact (rfl : (_ : List Item)[10]? = _) | exact (rfl : (_ : List Item)[11]? = _) | exact (rfl : (_ : List Item)[12]? = _) | exact (rfl : (_ : List Item)[13]? = _))
    (hf : OverAt cs off vs cs' := by repeat (first | exact OverAt.nil | apply OverAt.here | apply OverAt.skip)) (hH : SetAt H i (.box b t cs') H2 := by repeat (first | exact SetAt.zero | apply SetAt.succ)) : StepTo P w0 D n o τ H K :=
  StepTo.storeA i ho hdn hx hy hs hl h1 hi hf hH hK
theorem StepTo.stR {T : TypeId} {x y : Operand} {b off t k m c i : Nat} {xs : List Value} {H2 : List Item} (ho : o.op = .store T x y) (hdn : o.dst = none) (hx : evl τ x = some (.pointer (some ⟨b, off, none⟩))) (hy : evl τ y = some v)
    (hv : v.cells.toList = [v]) (hs : (P.info? T).map (·.size) = some 1) (h1 : v.oneCell' = true) (hK : K τ H2) (hi : H[i]? = some (.row (some ⟨b, 0, none⟩) m c t k xs) := by first | exact (rfl : (_ : List Item)[0]? = _) | exact (rfl : (_ : List Item)[1]? = _) | exact (rfl : (_ : List Item)[2]? = _) | exact (rfl : (_ : List Item)[3]? = _) | exact (rfl : (_ : List Item)[4]? = _) | exact (rfl : (_ : List Item)[5]? = _) | exact (rfl : (_ : List Item)[6]? = _) | exact (rfl : (_ : List Item)[7]? = _) | exact (rfl : (_ : List Item)[8]? = _) | exact (rfl : (_ : List Item)[9]? = _) | exact (rfl : (_ : List Item)[10]? = _) | exact (rfl : (_ : List Item)[11]? = _) | exact (rfl : (_ : List Item)[12]? = _) | exact (rfl : (_ : List Item)[13]? = _)) (hf : off < xs.length := by omega)
    (hH : SetAt H i (.row (some ⟨b, 0, none⟩) m c t k (xs.set off v)) H2 := by repeat (first | exact SetAt.zero | apply SetAt.succ)) : StepTo P w0 D n o τ H K :=
  StepTo.storeRow i ho hdn hx hy hv hs h1 hi hf hH hK
end
end Go.Proofs.Ythbhjnmkbmmcnaa
