/- What holds of memory in the midst of the statement in which 'Put' makes its own queue, in whatever order its operations come. -/
import Derived.Test.YtegefnidhdicdaaOrdPut
import Derived.Deep.AppendLies
namespace Go.Proofs.Ytegefnidhdicdaa
open Go.RowKit
set_option linter.unusedVariables false

/-- The slices and pointers that were made are told by the values of their slots ('undef': not yet). B: the block of the first box. -/
structure Mid (qc mc : Array Value) (kN nW : Nat) (next : List Int) (wait : List Msg) (w : World) (vA vB vG vQ : Value) (W : World) : Prop where
  below : Below w.heap.size w W
  big : w.heap.size + 3 ≤ W.heap.size
  box : Whole W w.heap.size 27 qc
  msg : Whole W (w.heap.size + 1) 38 mc
  res : Whole W (w.heap.size + 1 + 1) 27 #[.slice none 0 0, .slice none 0 0]
  ofA : vA = undef ∨ ∃ A c, vA = .slice A kN c ∧ W.ownsRow (w.heap.size + 3) 31 1 (.slice A kN c) kN (flat u16c next)
  ofB : vB = undef ∨ ∃ A c, vB = .slice A nW c ∧ W.ownsRow (w.heap.size + 3) 38 6 (.slice A nW c) nW (flat Msg.cs wait)
  ofG : vG = undef ∨ ∃ g, vG = .slice (some ⟨g, 0, none⟩) 1 1 ∧ Whole W g 38 mc
  ofQ : vQ = undef ∨ ∃ g, vQ = .pointer (some ⟨g, 0, none⟩) ∧ w.heap.size + 3 ≤ g ∧ Whole W g 27 #[.slice none 0 0, .slice none 0 0]

section
variable {qc mc : Array Value} {kN nW : Nat} {next : List Int} {wait : List Msg} {w W V : World} {vA vB vG vQ : Value}
theorem Mid.call (h : Mid qc mc kN nW next wait w vA vB vG vQ W) (hb : Below W.heap.size W V) : Mid qc mc kN nW next wait w vA vB vG vQ V where
  below := bel_call h.below hb (by have := h.big; omega)
  big := Nat.le_trans h.big hb.size
  box := h.box.call hb
  msg := h.msg.call hb
  res := h.res.call hb
  ofA := h.ofA.imp id fun ⟨A, c, e, o⟩ => ⟨A, c, e, own_call o hb⟩
  ofB := h.ofB.imp id fun ⟨A, c, e, o⟩ => ⟨A, c, e, own_call o hb⟩
  ofG := h.ofG.imp id fun ⟨g, e, o⟩ => ⟨g, e, o.call hb⟩
  ofQ := h.ofQ.imp id fun ⟨g, e, l, o⟩ => ⟨g, e, l, o.call hb⟩
theorem Mid.drew (h : Mid qc mc kN nW next wait w vA vB vG vQ W) : Mid qc mc kN nW next wait w vA vB vG vQ W.drew :=
  ⟨h.below.drew, h.big, h.box, h.msg, h.res, h.ofA, h.ofB, h.ofG, h.ofQ⟩
theorem below_new (W : World) (o : Obj) : Below W.heap.size W (W.alloc o) := (Below.refl _ _).alloc (Nat.le_refl _) _
theorem Mid.mkA (h : Mid qc mc kN nW next wait w undef vB vG vQ W) (hb : Below W.heap.size W V) {A : Option Addr} {c : Nat} (o : V.ownsRow W.heap.size 31 1 (.slice A kN c) kN (flat u16c next)) :
    Mid qc mc kN nW next wait w (.slice A kN c) vB vG vQ V :=
  let k := h.call hb
  ⟨k.below, k.big, k.box, k.msg, k.res, .inr ⟨A, c, rfl, own_base o h.big⟩, k.ofB, k.ofG, k.ofQ⟩
theorem Mid.mkB (h : Mid qc mc kN nW next wait w vA undef vG vQ W) (hb : Below W.heap.size W V) {A : Option Addr} {c : Nat} (o : V.ownsRow W.heap.size 38 6 (.slice A nW c) nW (flat Msg.cs wait)) :
    Mid qc mc kN nW next wait w vA (.slice A nW c) vG vQ V :=
  let k := h.call hb
  ⟨k.below, k.big, k.box, k.msg, k.res, k.ofA, .inr ⟨A, c, rfl, own_base o h.big⟩, k.ofG, k.ofQ⟩
theorem Mid.mkG (h : Mid qc mc kN nW next wait w vA vB undef vQ W) : Mid qc mc kN nW next wait w vA vB (.slice (some ⟨W.heap.size, 0, none⟩) 1 1) vQ (W.alloc (.cells mc 38)) :=
  let k := h.call (below_new W (.cells mc 38))
  ⟨k.below, k.big, k.box, k.msg, k.res, k.ofA, k.ofB, .inr ⟨_, rfl, Whole.new _ _ _⟩, k.ofQ⟩
theorem Mid.mkQ (h : Mid qc mc kN nW next wait w vA vB vG undef W) : Mid qc mc kN nW next wait w vA vB vG (.pointer (some ⟨W.heap.size, 0, none⟩)) (W.alloc (.cells #[.slice none 0 0, .slice none 0 0] 27)) :=
  let k := h.call (below_new W (.cells #[.slice none 0 0, .slice none 0 0] 27))
  ⟨k.below, k.big, k.box, k.msg, k.res, k.ofA, k.ofB, k.ofG, .inr ⟨_, rfl, h.big, Whole.new _ _ _⟩⟩
theorem Mid.mkG1 {o : Obj} (h : Mid qc mc kN nW next wait w vA vB undef vQ (W.alloc o)) : Mid qc mc kN nW next wait w vA vB (.slice (some ⟨W.heap.size + 1, 0, none⟩) 1 1) vQ ((W.alloc o).alloc (.cells mc 38)) := by
  have := h.mkG
  rwa [World.size_alloc] at this
theorem Mid.mkQ1 {o : Obj} (h : Mid qc mc kN nW next wait w vA vB vG undef (W.alloc o)) : Mid qc mc kN nW next wait w vA vB vG (.pointer (some ⟨W.heap.size + 1, 0, none⟩)) ((W.alloc o).alloc (.cells #[.slice none 0 0, .slice none 0 0] 27)) := by
  have := h.mkQ
  rwa [World.size_alloc] at this
theorem Mid.ownA {A : Option Addr} {n c : Nat} (h : Mid qc mc kN nW next wait w (.slice A n c) vB vG vQ W) : n = kN ∧ W.ownsRow (w.heap.size + 3) 31 1 (.slice A kN c) kN (flat u16c next) := by
  rcases h.ofA with e | ⟨A', c', e, o⟩
  · cases e
  · injection e with e1 e2 e3; subst e1 e2 e3; exact ⟨rfl, o⟩
theorem Mid.ownB {A : Option Addr} {n c : Nat} (h : Mid qc mc kN nW next wait w vA (.slice A n c) vG vQ W) : W.ownsRow (w.heap.size + 3) 38 6 (.slice A nW c) nW (flat Msg.cs wait) := by
  rcases h.ofB with e | ⟨A', c', e, o⟩
  · cases e
  · injection e with e1 e2 e3; subst e1 e2 e3; exact o
theorem Mid.news {g : Nat} (h : Mid qc mc kN nW next wait w vA vB (.slice (some ⟨g, 0, none⟩) 1 1) vQ W) : ∀ j u, mc.toList[j]? = some u → W.cell? ((⟨g, 0, none⟩ : Addr).add j) = some u := by
  rcases h.ofG with e | ⟨g', e, o⟩
  · cases e
  · simp only [Value.slice.injEq, Option.some.injEq, Addr.mk.injEq, and_true] at e
    subst e
    exact World.news_of_block (by exact o)
theorem Mid.app (h : Mid qc mc kN nW next wait w vA vB vG vQ W) {A : Option Addr} {c : Nat} (hB : vB = .slice A nW c) (hg : W.grownBy V (Value.slice A nW c).ownBlock) : Mid qc mc kN nW next wait w vA undef undef vQ V := by
  subst hB
  have o := h.ownB
  have hl : ∀ k, (Value.slice A nW c).ownBlock = some k → w.heap.size + 3 ≤ k := fun k hk => (o.lt k hk).1
  refine ⟨below_grown h.below hg (by have := h.big; omega) (fun k hk => by have := hl k hk; omega), Nat.le_trans h.big hg.size, h.box.grown hg (fun e => by have := hl _ e.symm; omega), h.msg.grown hg (fun e => by have := hl _ e.symm; omega),
    h.res.grown hg (fun e => by have := hl _ e.symm; omega), ?_, .inl rfl, .inl rfl, ?_⟩
  · exact h.ofA.imp id fun ⟨A', c', e, o'⟩ => ⟨A', c', e, o'.kept hg (own_ne o' o (by decide))⟩
  · exact h.ofQ.imp id fun ⟨g, e, l, o'⟩ => ⟨g, e, l, o'.grown hg (fun e => own_whole o o' (by decide) e.symm)⟩
theorem Mid.cells (h : Mid qc mc kN nW next wait w vA vB vG vQ W) : (∀ o, W.cell? ⟨w.heap.size, o, none⟩ = qc[o]?) ∧ (∀ o, W.cell? ⟨w.heap.size + 1, o, none⟩ = mc[o]?) := ⟨h.box.reads.1, h.msg.reads.1⟩
theorem Mid.readQ {g : Nat} (h : Mid qc mc kN nW next wait w vA vB vG (.pointer (some ⟨g, 0, none⟩)) W) : w.heap.size + 3 ≤ g ∧ Whole W g 27 #[.slice none 0 0, .slice none 0 0] := by
  rcases h.ofQ with e | ⟨g', e, l, o⟩
  · cases e
  · simp only [Value.pointer.injEq, Option.some.injEq, Addr.mk.injEq, and_true] at e
    subst e
    exact ⟨l, o⟩
/-- The queue is stored. -/
theorem Mid.stored {g : Nat} {x y : Value} (h : Mid qc mc kN nW next wait w vA undef undef (.pointer (some ⟨g, 0, none⟩)) W) :
    Mid qc mc kN nW next wait w vA undef undef undef ((W.setCell ⟨g, 0, none⟩ x).setCell ⟨g, 1, none⟩ y) ∧ Whole ((W.setCell ⟨g, 0, none⟩ x).setCell ⟨g, 1, none⟩ y) g 27 #[x, y] := by
  obtain ⟨l, o⟩ := h.readQ
  refine ⟨⟨(h.below.setCell (p := ⟨g, 0, none⟩) (by show w.heap.size ≤ g; omega) _).setCell (p := ⟨g, 1, none⟩) (by show w.heap.size ≤ g; omega) _, by simpa [World.setCell] using h.big,
    (h.box.far (p := ⟨g, 0, none⟩) (by show w.heap.size ≠ g; omega) _).far (p := ⟨g, 1, none⟩) (by show w.heap.size ≠ g; omega) _,
    (h.msg.far (p := ⟨g, 0, none⟩) (by show w.heap.size + 1 ≠ g; omega) _).far (p := ⟨g, 1, none⟩) (by show w.heap.size + 1 ≠ g; omega) _,
    (h.res.far (p := ⟨g, 0, none⟩) (by show w.heap.size + 1 + 1 ≠ g; omega) _).far (p := ⟨g, 1, none⟩) (by show w.heap.size + 1 + 1 ≠ g; omega) _, ?_, .inl rfl, .inl rfl, .inl rfl⟩, ?_⟩
  · exact h.ofA.imp id fun ⟨A', c', e, o'⟩ => ⟨A', c', e, own_far (own_far o' (own_whole o' o (by decide)) _) (own_whole o' o (by decide)) _⟩
  · have := (o.here 0 x).here 1 y
    simpa using this
end
end Go.Proofs.Ytegefnidhdicdaa
