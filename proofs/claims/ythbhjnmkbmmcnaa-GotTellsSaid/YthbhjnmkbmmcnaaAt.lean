/- Cells of views and rows, by facts that are at hand. Of whatever program. -/
import Derived.Test.YthbhjnmkbmmcnaaOka
namespace Go.Proofs.Ythbhjnmkbmmcnaa
open Go.RowKit
set_option linter.unusedVariables false
set_option linter.unusedSectionVars false

section
variable {P : Program} {w0 : World} {D : Nat → Prop} {n : Nat} [Dfr] {Q : Exit → Act → World → Prop} {τ : Tm} {H : List Item} {ops : Array Oper} {o : Oper} {l : List Oper} {v v' : Value} {K : Tm → List Item → Prop}
/-- A cell of a view, by a fact that is at hand. -/
theorem CellAt.vwE (i : Nat) {b off m k o q : Nat} {xs : List Value} (hi : H[i]? = some (.vw (some ⟨b, off, none⟩) m k xs)) (hc : xs[q]? = some v) (e : o = off + q) : CellAt w0 D H b o v := fun w hw => by
  have h := hw.holds _ (List.mem_of_getElem? hi)
  have hm : 0 < m := by
    rcases Nat.eq_zero_or_pos m with h0 | h0
    · subst h0
      have h1 := h.1
      rw [Nat.zero_mul] at h1
      have := List.eq_nil_of_length_eq_zero h1
      subst this
      simp at hc
    · exact h0
  obtain ⟨b', off', e', _, hcc⟩ := h.2.2 hm
  injection e' with e'
  injection e' with e1 e2
  subst e1; subst e2; subst e
  exact hcc _ _ hc
end
end Go.Proofs.Ythbhjnmkbmmcnaa
