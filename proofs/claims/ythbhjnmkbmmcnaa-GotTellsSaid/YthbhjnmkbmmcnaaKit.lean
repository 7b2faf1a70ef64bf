/- Small laws on memory that the walks of this claim share: of whatever program. -/
import Derived.WalkKit
import Derived.WalkSmall
import Derived.WalkLawsBesides
import Derived.Lib.MinMax
import Derived.Lib.Hide
import Derived.BigQuiet
import Derived.Deep.QuietTactic
import Derived.Deep.LoopGhost
namespace Go.Proofs.Ythbhjnmkbmmcnaa
open Go.RowKit

/-- A callee that changes nothing, in a region that draws its order. -/
theorem quiet_left' {P : Program} {f : FuncId} {args : Array Value} {w : World} {n : Nat} {v : Value}
    (h : Calls P f args (w.drewN n) fun e w' => e = .returned v ∧ w.drewN n = w') : Calls P f args (w.drewN n) fun e w'' => e = .returned v ∧ ∃ m, w'' = w.drewN m :=
  h.mono fun _ _ ⟨he, hm⟩ => ⟨he, n, hm.symm⟩

/-- A call that leaves alone what was there when it began, behind others that did so. -/
theorem bel_call {B : Nat} {a w w1 : World} (h : Below B a w) (hb : Below w.heap.size w w1) (hB : B ≤ w.heap.size) : Below B a w1 := h.trans (hb.mono hB)

/-- What a block that stood before a call reads as behind it. -/
theorem bblk {W w1 : World} (b : Nat) (hb : Below W.heap.size W w1) (h : b < W.heap.size) :
    (∀ o, w1.cell? ⟨b, o, none⟩ = W.cell? ⟨b, o, none⟩) ∧ (∀ o, w1.frozen? ⟨b, o, none⟩ = W.frozen? ⟨b, o, none⟩) :=
  ⟨fun o => hb.cell (p := ⟨b, o, none⟩) h, fun o => hb.frozen (p := ⟨b, o, none⟩) h⟩

/-- A block that is known as a whole, none of its cells frozen. -/
def Whole (w : World) (g : Nat) (t : TypeId) (cs : Array Value) : Prop := w.heap[g]? = some (.cells cs t (0, 0))

section
variable {w w' : World} {g : Nat} {t : TypeId} {cs : Array Value}
theorem Whole.lt (h : Whole w g t cs) : g < w.heap.size := by
  rcases Nat.lt_or_ge g w.heap.size with hl | hl
  · exact hl
  · unfold Whole at h; rw [Array.getElem?_eq_none hl] at h; cases h
theorem Whole.reads (h : Whole w g t cs) : (∀ o, w.cell? ⟨g, o, none⟩ = cs[o]?) ∧ (∀ o, w.frozen? ⟨g, o, none⟩ = false) :=
  ⟨fun o => cell_of_row w g o cs t (0, 0) h, fun o => by unfold Whole at h; simp [World.frozen?, h]⟩
theorem Whole.new (w : World) (t : TypeId) (cs : Array Value) : Whole (w.alloc (.cells cs t)) w.heap.size t cs := heap_alloc_new w _
theorem Whole.drew (h : Whole w g t cs) : Whole w.drew g t cs := h
theorem Whole.drewN (h : Whole w g t cs) (n : Nat) : Whole (w.drewN n) g t cs := h
theorem Whole.alloc (h : Whole w g t cs) (o : Obj) : Whole (w.alloc o) g t cs := (Below.heap_alloc w o g h.lt).trans h
theorem Whole.here (h : Whole w g t cs) (i : Nat) (u : Value) : Whole (w.setCell ⟨g, i, none⟩ u) g t (cs.setIfInBounds i u) := by
  unfold Whole at h ⊢
  simp [World.setCell, Array.getElem?_modify, h]
theorem Whole.far (h : Whole w g t cs) {p : Addr} (hp : g ≠ p.block) (u : Value) : Whole (w.setCell p u) g t cs := (Below.heap_setCell w p u g hp).trans h
theorem Whole.below {B : Nat} (h : Whole w g t cs) (hb : Below B w w') (hg : g < B) : Whole w' g t cs := (hb.block g hg).trans h
theorem Whole.put5 {a0 a1 a2 a3 a4 : Value} (h : Whole w g t #[a0, a1, a2, a3, a4]) (b0 b1 b2 b3 b4 : Value) :
    Whole (((((w.setCell ⟨g, 0, none⟩ b0).setCell ⟨g, 1, none⟩ b1).setCell ⟨g, 2, none⟩ b2).setCell ⟨g, 3, none⟩ b3).setCell ⟨g, 4, none⟩ b4) g t #[b0, b1, b2, b3, b4] := by
  have := ((((h.here 0 b0).here 1 b1).here 2 b2).here 3 b3).here 4 b4
  simpa using this
theorem Whole.far5 (h : Whole w g t cs) {g' : Nat} (hg : g ≠ g') (b0 b1 b2 b3 b4 : Value) :
    Whole (((((w.setCell ⟨g', 0, none⟩ b0).setCell ⟨g', 1, none⟩ b1).setCell ⟨g', 2, none⟩ b2).setCell ⟨g', 3, none⟩ b3).setCell ⟨g', 4, none⟩ b4) g t cs :=
  ((((h.far (p := ⟨g', 0, none⟩) hg b0).far (p := ⟨g', 1, none⟩) hg b1).far (p := ⟨g', 2, none⟩) hg b2).far (p := ⟨g', 3, none⟩) hg b3).far (p := ⟨g', 4, none⟩) hg b4
theorem Whole.put3 {a0 a1 a2 : Value} (h : Whole w g t #[a0, a1, a2]) (b0 b1 b2 : Value) :
    Whole (((w.setCell ⟨g, 0, none⟩ b0).setCell ⟨g, 1, none⟩ b1).setCell ⟨g, 2, none⟩ b2) g t #[b0, b1, b2] := by
  have := ((h.here 0 b0).here 1 b1).here 2 b2
  simpa using this
theorem Whole.far3 (h : Whole w g t cs) {g' : Nat} (hg : g ≠ g') (b0 b1 b2 : Value) :
    Whole (((w.setCell ⟨g', 0, none⟩ b0).setCell ⟨g', 1, none⟩ b1).setCell ⟨g', 2, none⟩ b2) g t cs :=
  ((h.far (p := ⟨g', 0, none⟩) hg b0).far (p := ⟨g', 1, none⟩) hg b1).far (p := ⟨g', 2, none⟩) hg b2
theorem Whole.bk (h : Whole w g t cs) : (g < w.heap.size ∧ (∀ o, w.cell? ⟨g, o, none⟩ = (cs : Array Value)[o]?) ∧ (∀ o, w.frozen? ⟨g, o, none⟩ = false)) := ⟨h.lt, h.reads.1, h.reads.2⟩
theorem bk_call {w w' : World} {g : Nat} {cs : Array Value} (hb : Below w.heap.size w w') (h : (g < w.heap.size ∧ (∀ o, w.cell? ⟨g, o, none⟩ = (cs : Array Value)[o]?) ∧ (∀ o, w.frozen? ⟨g, o, none⟩ = false))) : (g < w'.heap.size ∧ (∀ o, w'.cell? ⟨g, o, none⟩ = (cs : Array Value)[o]?) ∧ (∀ o, w'.frozen? ⟨g, o, none⟩ = false)) :=
  ⟨Nat.lt_of_lt_of_le h.1 hb.size, fun o => (hb.cell (p := ⟨g, o, none⟩) h.1).trans (h.2.1 o), fun o => (hb.frozen (p := ⟨g, o, none⟩) h.1).trans (h.2.2 o)⟩
theorem bk2_call {B : Nat} {a w w' : World} {g g' : Nat} {cs cs' : Array Value} (hb : Below w.heap.size w w') (h : (Below B a w ∧ B ≤ w.heap.size) ∧ (g < w.heap.size ∧ (∀ o, w.cell? ⟨g, o, none⟩ = (cs : Array Value)[o]?) ∧ (∀ o, w.frozen? ⟨g, o, none⟩ = false)) ∧ (g' < w.heap.size ∧ (∀ o, w.cell? ⟨g', o, none⟩ = (cs' : Array Value)[o]?) ∧ (∀ o, w.frozen? ⟨g', o, none⟩ = false))) :
    (Below B a w' ∧ B ≤ w'.heap.size) ∧ (g < w'.heap.size ∧ (∀ o, w'.cell? ⟨g, o, none⟩ = (cs : Array Value)[o]?) ∧ (∀ o, w'.frozen? ⟨g, o, none⟩ = false)) ∧ (g' < w'.heap.size ∧ (∀ o, w'.cell? ⟨g', o, none⟩ = (cs' : Array Value)[o]?) ∧ (∀ o, w'.frozen? ⟨g', o, none⟩ = false)) :=
  ⟨⟨bel_call h.1.1 hb h.1.2, Nat.le_trans h.1.2 hb.size⟩, bk_call hb h.2.1, bk_call hb h.2.2⟩
theorem bk1_call {B : Nat} {a w w' : World} {g : Nat} {cs : Array Value} (hb : Below w.heap.size w w') (h : (Below B a w ∧ B ≤ w.heap.size) ∧ (g < w.heap.size ∧ (∀ o, w.cell? ⟨g, o, none⟩ = (cs : Array Value)[o]?) ∧ (∀ o, w.frozen? ⟨g, o, none⟩ = false))) :
    (Below B a w' ∧ B ≤ w'.heap.size) ∧ (g < w'.heap.size ∧ (∀ o, w'.cell? ⟨g, o, none⟩ = (cs : Array Value)[o]?) ∧ (∀ o, w'.frozen? ⟨g, o, none⟩ = false)) :=
  ⟨⟨bel_call h.1.1 hb h.1.2, Nat.le_trans h.1.2 hb.size⟩, bk_call hb h.2⟩
theorem Whole.call (h : Whole w g t cs) (hb : Below w.heap.size w w') : Whole w' g t cs := h.below hb h.lt
end

/-- A slice of integers that came in: nil; or a row of 'cap' cells, the numbers 'zs' (the first 'len' are its elements), each fitting its kind. -/
def IsRow (k : IntKind) (w : World) (a : Option Addr) (len cap : Nat) (zs : List Int) : Prop :=
  (a = none ∧ len = 0 ∧ cap = 0 ∧ zs = []) ∨
  ∃ x, a = some x ∧ len ≤ cap ∧ cap ≤ maxLen ∧ zs.length = cap ∧ (∀ i, i < zs.length → w.cell? (x.add i) = some (.int k (zs.getD i 0))) ∧ ∀ n ∈ zs, (Lit.int k n).wf = true

/-- A slice of integers, as a walk reads it: nil, empty and other slices alike. -/
structure Ints (k : IntKind) (w : World) (B : Nat) (A : Option Addr) (n : Nat) (xs : List Int) : Prop where
  len : xs.length = n
  most : n ≤ maxLen
  wf : ∀ v ∈ xs, (Lit.int k v).wf = true
  at_ : 0 < n → ∃ b off, A = some ⟨b, off, none⟩ ∧ b < B ∧ ∀ i, i < n → w.cell? ⟨b, off + i, none⟩ = some (.int k (xs.getD i 0))

theorem IsRow.ints {k : IntKind} {w : World} {A : Option Addr} {n c : Nat} {zs : List Int} (h : IsRow k w A n c zs) : Ints k w w.heap.size A n (zs.take n) := by
  rcases h with ⟨rfl, rfl, rfl, rfl⟩ | ⟨x, rfl, hl, hm, hz, hcell, hwz⟩
  · exact ⟨by simp, by simp [maxLen], by simp, fun h => absurd h (by omega)⟩
  · refine ⟨by rw [List.length_take]; omega, by omega, fun v hv => hwz v (List.mem_of_mem_take hv), fun hn => ?_⟩
    obtain ⟨b, off, spot⟩ := x
    have hc := hcell 0 (by omega)
    have hspot : spot = none := by simpa [Addr.add] using World.cell?_spot hc
    subst hspot
    refine ⟨b, off, rfl, World.block_lt_of_cell? w _ (by simpa [Addr.add] using hc), fun i hi => ?_⟩
    have h1 := hcell i (by omega)
    have e : ((zs.take n).getD i 0) = zs.getD i 0 := by simp [List.getD, hi]
    rw [e]
    rcases Nat.eq_zero_or_pos i with h0 | h0
    · subst h0; simpa [Addr.add] using h1
    · simpa [Addr.add, Nat.ne_of_gt h0] using h1

theorem Ints.call {k : IntKind} {w w' : World} {B : Nat} {A : Option Addr} {n : Nat} {xs : List Int} (h : Ints k w B A n xs) {B' : Nat} (hb : Below B' w w') (hB : B ≤ B') : Ints k w' B A n xs :=
  ⟨h.len, h.most, h.wf, fun hn => by
    obtain ⟨b, off, e, hlt, hc⟩ := h.at_ hn
    exact ⟨b, off, e, hlt, fun i hi => (hb.cell (p := ⟨b, off + i, none⟩) (by show b < B'; omega)).trans (hc i hi)⟩⟩

theorem ret_bool {a b : Bool} (h : a = b) : Ending.returned (.bool a) = .returned (.bool b) := by rw [h]
theorem ret_int' {k : IntKind} {a b : Int} (h : a = b) : Ending.returned (.int k a) = .returned (.int k b) := by rw [h]
theorem bk2_drew {B : Nat} {a w : World} {g g' : Nat} {cs cs' : Array Value} (h : (Below B a w ∧ B ≤ w.heap.size) ∧ (g < w.heap.size ∧ (∀ o, w.cell? ⟨g, o, none⟩ = (cs : Array Value)[o]?) ∧ (∀ o, w.frozen? ⟨g, o, none⟩ = false)) ∧ (g' < w.heap.size ∧ (∀ o, w.cell? ⟨g', o, none⟩ = (cs' : Array Value)[o]?) ∧ (∀ o, w.frozen? ⟨g', o, none⟩ = false))) :
    (Below B a w.drew ∧ B ≤ w.drew.heap.size) ∧ (g < w.drew.heap.size ∧ (∀ o, w.drew.cell? ⟨g, o, none⟩ = (cs : Array Value)[o]?) ∧ (∀ o, w.drew.frozen? ⟨g, o, none⟩ = false)) ∧ (g' < w.drew.heap.size ∧ (∀ o, w.drew.cell? ⟨g', o, none⟩ = (cs' : Array Value)[o]?) ∧ (∀ o, w.drew.frozen? ⟨g', o, none⟩ = false)) := ⟨⟨h.1.1.drew, h.1.2⟩, h.2⟩
theorem bk1_drew {B : Nat} {a w : World} {g : Nat} {cs : Array Value} (h : (Below B a w ∧ B ≤ w.heap.size) ∧ (g < w.heap.size ∧ (∀ o, w.cell? ⟨g, o, none⟩ = (cs : Array Value)[o]?) ∧ (∀ o, w.frozen? ⟨g, o, none⟩ = false))) :
    (Below B a w.drew ∧ B ≤ w.drew.heap.size) ∧ (g < w.drew.heap.size ∧ (∀ o, w.drew.cell? ⟨g, o, none⟩ = (cs : Array Value)[o]?) ∧ (∀ o, w.drew.frozen? ⟨g, o, none⟩ = false)) := ⟨⟨h.1.1.drew, h.1.2⟩, h.2⟩
theorem start1 (w : World) (t : TypeId) (cs : Array Value) :
    (Below w.heap.size w (w.alloc (.cells cs t)) ∧ w.heap.size ≤ (w.alloc (.cells cs t)).heap.size) ∧ (w.heap.size < (w.alloc (.cells cs t)).heap.size ∧ (∀ o, (w.alloc (.cells cs t)).cell? ⟨w.heap.size, o, none⟩ = (cs : Array Value)[o]?) ∧ (∀ o, (w.alloc (.cells cs t)).frozen? ⟨w.heap.size, o, none⟩ = false)) :=
  ⟨⟨(Below.refl _ _).alloc (Nat.le_refl _) _, by simp⟩, (Whole.new w t cs).bk⟩
theorem start2 (w : World) (t t' : TypeId) (cs cs' : Array Value) :
    (Below w.heap.size w ((w.alloc (.cells cs t)).alloc (.cells cs' t')) ∧ w.heap.size ≤ ((w.alloc (.cells cs t)).alloc (.cells cs' t')).heap.size) ∧
      (w.heap.size < ((w.alloc (.cells cs t)).alloc (.cells cs' t')).heap.size ∧ (∀ o, ((w.alloc (.cells cs t)).alloc (.cells cs' t')).cell? ⟨w.heap.size, o, none⟩ = (cs : Array Value)[o]?) ∧ (∀ o, ((w.alloc (.cells cs t)).alloc (.cells cs' t')).frozen? ⟨w.heap.size, o, none⟩ = false)) ∧ ((w.heap.size + 1) < ((w.alloc (.cells cs t)).alloc (.cells cs' t')).heap.size ∧ (∀ o, ((w.alloc (.cells cs t)).alloc (.cells cs' t')).cell? ⟨(w.heap.size + 1), o, none⟩ = (cs' : Array Value)[o]?) ∧ (∀ o, ((w.alloc (.cells cs t)).alloc (.cells cs' t')).frozen? ⟨(w.heap.size + 1), o, none⟩ = false)) := by
  have h := (Whole.new (w.alloc (.cells cs t)) t' cs').bk
  rw [World.size_alloc] at h
  exact ⟨⟨((Below.refl _ _).alloc (Nat.le_refl _) _).alloc (by simp) _, by simp; omega⟩, ((Whole.new w t cs).alloc _).bk, h⟩
theorem start3 (w : World) (t t' t'' : TypeId) (cs cs' cs'' : Array Value) :
    (Below w.heap.size w (((w.alloc (.cells cs t)).alloc (.cells cs' t')).alloc (.cells cs'' t'')) ∧ w.heap.size ≤ (((w.alloc (.cells cs t)).alloc (.cells cs' t')).alloc (.cells cs'' t'')).heap.size) ∧
      Whole (((w.alloc (.cells cs t)).alloc (.cells cs' t')).alloc (.cells cs'' t'')) w.heap.size t cs ∧ Whole (((w.alloc (.cells cs t)).alloc (.cells cs' t')).alloc (.cells cs'' t'')) (w.heap.size + 1) t' cs' ∧
      Whole (((w.alloc (.cells cs t)).alloc (.cells cs' t')).alloc (.cells cs'' t'')) (w.heap.size + 1 + 1) t'' cs'' := by
  have h1 := Whole.new (w.alloc (.cells cs t)) t' cs'
  have h2 := Whole.new ((w.alloc (.cells cs t)).alloc (.cells cs' t')) t'' cs''
  rw [World.size_alloc] at h1 h2
  rw [World.size_alloc] at h2
  exact ⟨⟨(((Below.refl _ _).alloc (Nat.le_refl _) _).alloc (by simp) _).alloc (by simp; omega) _, by simp; omega⟩, ((Whole.new w t cs).alloc _).alloc _, h1.alloc _, h2⟩
end Go.Proofs.Ythbhjnmkbmmcnaa
