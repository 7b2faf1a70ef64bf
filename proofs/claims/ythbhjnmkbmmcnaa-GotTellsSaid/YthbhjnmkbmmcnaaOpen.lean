/- How an argument that is a struct of one-cell fields is opened: its cells, each with its own reading. Of whatever program. -/
import Derived.Test.YthbhjnmkbmmcnaaRows
import Derived.ProofKit
import Derived.OpenShut
import Derived.ShutString
import Derived.ChangeOld
import Derived.Deep.Fields
import Derived.Below
namespace Go.Proofs.Ythbhjnmkbmmcnaa
open Go.ChangeShapes Go.WideShapes Go.ChangeAt Go.RowKit Go.Deep

section
variable {H : Type} {enc : TypeId × Value → H} {P : Program} {w : World} {base : Nat} {spare : Nat → Bool} {held : Bool}
theorem open_flat {r : Reach} {b0 : Nat} {t : TypeId} {fs : Array Field} {v : Value} {d : DataW H} {p : List MemPlace} (hs : P.underlying t = some (.struct fs)) (hone : oneCellFields P fs = true)
    (hC : P.cellsOf t = fs.size) (hv : Value.okWide P w r b0 t v) (h : DataW.Trod enc P w base spare held t v d p) :
    ∃ l : List Value, v = .agg l.toArray ∧ l.length = fs.size ∧ ∃ n, ∀ (j : Nat) (f : Field), fs[j]? = some f → ∃ c y, l[j]? = some c ∧ DataW.trod enc P w base spare held n f.type [c] = some y := by
  obtain ⟨cs, rfl, hsz⟩ := okWide_struct hs hv
  obtain ⟨l⟩ := cs
  have hl : l.length = fs.size := by simpa using hsz.trans hC
  obtain ⟨fuel, hf⟩ := h
  obtain ⟨xs, n, _, _, _, hx, hg⟩ := DataW.trod_struct hs hf
  refine ⟨l, rfl, hl, n, fun j f hj => ?_⟩
  have hjl : j < fs.size := (Array.getElem?_eq_some_iff.1 hj).1
  obtain ⟨ho, hk⟩ := hone_of hone j f hj
  have h1 := hg j f hj
  simp only [Value.cells] at h1
  rw [ho, hk] at h1
  have hd : (l.drop j).take 1 = [l[j]'(by omega)] := by
    rw [List.drop_eq_getElem_cons (by omega)]
    rfl
  rw [hd] at h1
  exact ⟨l[j]'(by omega), xs[j]'(by omega), List.getElem?_eq_getElem (by omega), h1.trans (List.getElem?_eq_getElem (by omega))⟩
end


end Go.Proofs.Ythbhjnmkbmmcnaa
