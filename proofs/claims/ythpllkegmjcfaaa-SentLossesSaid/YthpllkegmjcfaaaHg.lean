/- Held regions whose effects are guarded, over symbolic states. Of whatever program. -/
import Derived.Test.YthpllkegmjcfaaaDraw
namespace Go.Proofs.Ythpllkegmjcfaaa
open Go.RowKit Go.IntWalk
set_option linter.unusedVariables false

/-- The operation is to run. -/
def Want (ops : Array Oper) (τ : Tm) (o : Oper) : Prop := o.guard = none ∨ ∃ j want b jt oj, o.guard = some (j, want) ∧ ops[j]? = some oj ∧ oj.dst = some jt ∧ look τ jt = some (.bool b) ∧ b = want
section
variable {P : Program} {w0 : World} {D : Nat → Prop} {n : Nat} {Q : Exit → Act → World → Prop} {τ : Tm} {H : List Item} {ops : Array Oper} {S : List Item}
theorem WA.op1 {i : Nat} {o : Oper} {fuel : Nat} {listed : Array Bool} {a : Act} {w : World} (hi : ops[i]? = some o) (hg : Want ops τ o)
    (h : StepTo P w0 D n o τ H fun τ' H' => (∃ idx, Pick idx H' S) ∧ WA P w0 D n ops S Q fuel (listed.setIfInBounds i true) τ' H') (ha : Has n τ a) (hw : Sat w0 D H w) :
    wpOp P ops (NoPanic Q) i (fun a' w' => Sat w0 D S w' ∧ wpAnyH P .any ops (NoPanic Q) (Sat w0 D S) fuel (listed.setIfInBounds i true) a' w') a w := by
  unfold wpOp
  simp only [hi]
  rw [if_pos (by
    rcases hg with hg | ⟨j, want, b, jt, oj, h1, h2, h3, h4, h5⟩
    · simp [Region.wanted, hg]
    · have hy : yielded ops a.tmps j = some b := by simp [yielded, h2, h3, ha.at_ jt _ h4]
      simp [Region.wanted, h1, hy, h5])]
  exact .inl (h.go _ _ (fun τ' H' ⟨⟨idx, hp⟩, hk⟩ a' w' ha' hw' => ⟨hw'.pick hp, hk.go a' w' ha' hw'⟩) a w ha hw)
theorem WA.oneW (i : Nat) {o : Oper} {fuel : Nat} {listed : Array Bool} (hr : Region.ready .any ops listed = [i]) (hi : ops[i]? = some o) (hg : Want ops τ o)
    (h : StepTo P w0 D n o τ H fun τ' H' => (∃ idx, Pick idx H' S) ∧ WA P w0 D n ops S Q fuel (listed.setIfInBounds i true) τ' H') : WA P w0 D n ops S Q (fuel + 1) listed τ H :=
  ⟨fun a w ha hw => wpAnyH_all hr (by simp) fun j hj => by
    obtain rfl : j = i := by simpa using hj
    exact WA.op1 hi hg h ha hw⟩
theorem WA.twoW (i j : Nat) {o u : Oper} {fuel : Nat} {listed : Array Bool} (hr : Region.ready .any ops listed = [i, j]) (hi : ops[i]? = some o) (hg : Want ops τ o) (hj : ops[j]? = some u) (hgj : Want ops τ u)
    (h : StepTo P w0 D n o τ H fun τ' H' => (∃ idx, Pick idx H' S) ∧ WA P w0 D n ops S Q fuel (listed.setIfInBounds i true) τ' H')
    (h2 : StepTo P w0 D n u τ H fun τ' H' => (∃ idx, Pick idx H' S) ∧ WA P w0 D n ops S Q fuel (listed.setIfInBounds j true) τ' H') : WA P w0 D n ops S Q (fuel + 1) listed τ H :=
  ⟨fun a w ha hw => wpAnyH_all hr (by simp) fun k hk => by
    have hk' : k = i ∨ k = j := by simpa using hk
    rcases hk' with rfl | rfl
    · exact WA.op1 hi hg h ha hw
    · exact WA.op1 hj hgj h2 ha hw⟩
end
end Go.Proofs.Ythpllkegmjcfaaa
