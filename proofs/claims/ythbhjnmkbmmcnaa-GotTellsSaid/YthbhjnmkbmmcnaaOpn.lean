/- How a slice of elements of fixed size that came in is read. Of whatever program. -/
import Derived.Test.YthbhjnmkbmmcnaaLst
import Derived.Test.YthbhjnmkbmmcnaaOpen
import Derived.Deep.Slices
namespace Go.Proofs.Ythbhjnmkbmmcnaa
open Go.ChangeShapes Go.WideShapes Go.ChangeAt Go.RowKit Go.Deep
set_option linter.unusedVariables false

section
variable {H : Type} {en : TypeId × Value → H} {P : Program} {w : World} {base : Nat} {spare : Nat → Bool} {held : Bool} {α : Type} {enc : α → List Value} {k : Nat}
theorem open_list {t e : TypeId} {fuel : Nat} {c1 : Value} {y : DataW H × List MemPlace} (dflt : α) (Wf : α → Prop) (ht : P.underlying t = some (.slice e)) (hk : P.cellsOf e = k) (hk0 : 0 < k) (hlen : ∀ x, (enc x).length = k)
    (hc : DataW.trod en P w base spare held fuel t [c1] = some y) (each : ∀ n cs' z, cs'.length = k → DataW.trod en P w base spare held n e cs' = some z → ∃ x, Wf x ∧ enc x = cs') (hsp : ∀ a len cap, c1 = .slice (some a) len cap → a.spot = none) :
    ∃ A n c xs, c1 = .slice A n c ∧ Lst enc k w w.heap.size A n xs ∧ (∀ x ∈ xs, Wf x) ∧ ((A.isSome = true ∨ n = 0) ∧ ∀ x, A = some x → x.spot = none) ∧ n ≤ c ∧ (n = 0 ∨ ∃ elems rest, y.1 = .slice elems rest ∧ elems.length = n) := by
  rcases open_slice ht hc with ⟨hcs, hy⟩ | ⟨a, len, cap, m, n, D, Pl, hcs, _, hl, hm, hmm, hy, hx⟩
  · simp only [List.cons.injEq, and_true] at hcs
    subst hcs
    exact ⟨none, 0, 0, [], rfl, Lst.nil_, by simp, ⟨.inr rfl, fun x h => by cases h⟩, Nat.le_refl _, .inl rfl⟩
  · simp only [List.cons.injEq, and_true] at hcs
    subst hcs
    have hspot := hsp a len cap rfl
    obtain ⟨b, off, spot⟩ := a
    simp only at hspot
    subst hspot
    have hlm : len ≤ m := by rw [hmm]; split <;> omega
    have each' : ∀ i, i < len → ∃ x : α, Wf x ∧ ∀ j u, (enc x)[j]? = some u → w.cell? ⟨b, off + i * k + j, none⟩ = some u := by
      intro i hi
      obtain ⟨cs', h1, h2⟩ := hx i (by omega)
      rw [hk] at h1
      obtain ⟨_, hln, hcell⟩ := World.cells?_some h1
      obtain ⟨x, hx1, hx2⟩ := each n cs' _ hln h2
      refine ⟨x, hx1, fun j u hu => ?_⟩
      have hj : j < k := by rw [← hlen x]; exact (List.getElem?_eq_some_iff.1 hu).1
      have := hcell j hj
      rw [← hx2, hu, Go.Deep.add_add, addr_add] at this
      rwa [Nat.add_assoc]
    obtain ⟨f, hfm⟩ : ∃ f : Nat → α, ∀ i, i < len → Wf (f i) ∧ ∀ j u, (enc (f i))[j]? = some u → w.cell? ⟨b, off + i * k + j, none⟩ = some u := by
      refine ⟨fun i => if h : i < len then (each' i h).choose else dflt, fun i hi => ?_⟩
      simp only [hi, dif_pos]
      exact (each' i hi).choose_spec
    refine ⟨some ⟨b, off, none⟩, len, cap, (List.range len).map f, rfl, ⟨by simp, by omega, fun h0 => ?_⟩, fun x hx' => ?_, ⟨.inl rfl, fun x h => by cases h; rfl⟩, hl, .inr ⟨_, _, by rw [hy], by simp⟩⟩
    · have h00 : ∃ u, (enc (f 0))[0]? = some u := ⟨_, List.getElem?_eq_getElem (by rw [hlen]; exact hk0)⟩
      obtain ⟨u, hu⟩ := h00
      have hb0 := (hfm 0 h0).2 0 u hu
      refine ⟨b, off, rfl, World.block_lt_of_cell? w _ hb0, fun i hi j u hu => ?_⟩
      simp only [List.length_map, List.length_range] at hi
      simp only [List.getElem_map, List.getElem_range] at hu
      exact (hfm i hi).2 j u hu
    · obtain ⟨i, hi, rfl⟩ := List.mem_map.1 hx'
      exact (hfm i (List.mem_range.1 hi)).1
/-- The address of a slice that a value may hold is no part of an element. -/
theorem spot_of_cell {r : Reach} {b0 : Nat} {t e : TypeId} {c1 : Value} (ht : P.underlying t = some (.slice e)) (h : Cell.okWide P w r b0 t c1) : ∀ a len cap, c1 = .slice (some a) len cap → a.spot = none := by
  intro a len cap hc
  subst hc
  unfold Cell.okWide at h
  rw [ht] at h
  unfold Cell.ok at h
  rw [ht] at h
  exact h.2.2.2.1
end
end Go.Proofs.Ythbhjnmkbmmcnaa
