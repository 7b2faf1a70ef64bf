/- How a message, and a slice of messages, that came in is read. -/
import Derived.Test.YtegefnidhdicdaaMsg
import Derived.Test.YtegefnidhdicdaaOpen
import Derived.Deep.Slices
namespace Go.Proofs.Ytegefnidhdicdaa
open Go.ChangeShapes Go.WideShapes Go.ChangeAt Go.RowKit Go.Deep
set_option linter.unusedVariables false

/-- What is so of every message that a memory can hold. -/
structure Msg.Wf (m : Msg) : Prop where
  first : (Lit.int .u32 m.first).wf = true
  stream : (Lit.int .u16 m.stream).wf = true
  ssn : (Lit.int .u16 m.ssn).wf = true
  ppid : (Lit.int .u32 m.ppid).wf = true
  text : m.text.size ≤ maxLen

section
variable {H : Type} {enc : TypeId × Value → H} {w : World} {base : Nat} {spare : Nat → Bool} {held : Bool}
theorem msg_trods {n : Nat} {c0 c1 c2 c3 c4 c5 : Value} {y0 y1 y2 y3 y4 y5 : DataW H × List MemPlace} (t0 : DataW.trod enc Try.prog w base spare held n 36 [c0] = some y0) (t1 : DataW.trod enc Try.prog w base spare held n 4 [c1] = some y1)
    (t2 : DataW.trod enc Try.prog w base spare held n 31 [c2] = some y2) (t3 : DataW.trod enc Try.prog w base spare held n 31 [c3] = some y3) (t4 : DataW.trod enc Try.prog w base spare held n 36 [c4] = some y4)
    (t5 : DataW.trod enc Try.prog w base spare held n 9 [c5] = some y5) : ∃ m : Msg, [c0, c1, c2, c3, c4, c5] = m.cs ∧ m.Wf := by
  obtain ⟨a0, f0, _, w0⟩ := DataW.trod_int Try.underlying36 t0
  obtain ⟨a1, f1, _⟩ := DataW.trod_bool Try.underlying4 t1
  obtain ⟨a2, f2, _, w2⟩ := DataW.trod_int Try.underlying31 t2
  obtain ⟨a3, f3, _, w3⟩ := DataW.trod_int Try.underlying31 t3
  obtain ⟨a4, f4, _, w4⟩ := DataW.trod_int Try.underlying36 t4
  obtain ⟨a5, f5, _, w5⟩ := DataW.trod_string Try.underlying9 t5
  simp at f0 f1 f2 f3 f4 f5
  subst f0 f1 f2 f3 f4 f5
  exact ⟨⟨a0, a1, a2, a3, a4, a5⟩, rfl, w0, w2, w3, w4, w5⟩

theorem open_msg {r : Reach} {b0 : Nat} {v : Value} {d : DataW H} {p : List MemPlace} (hv : Value.okWide Try.prog w r b0 38 v) (h : DataW.Trod enc Try.prog w base spare held 38 v d p) :
    ∃ m : Msg, v = .agg #[.int .u32 m.first, .bool m.free, .int .u16 m.stream, .int .u16 m.ssn, .int .u32 m.ppid, .string m.text] ∧ m.Wf := by
  obtain ⟨l, rfl, hl, n, hg⟩ := open_flat Try.underlying38 (by kernel_rfl) (by kernel_rfl) hv h
  match l, hl with
  | [c0, c1, c2, c3, c4, c5], _ =>
    obtain ⟨_, _, e0, t0⟩ := hg 0 _ rfl
    obtain ⟨_, _, e1, t1⟩ := hg 1 _ rfl
    obtain ⟨_, _, e2, t2⟩ := hg 2 _ rfl
    obtain ⟨_, _, e3, t3⟩ := hg 3 _ rfl
    obtain ⟨_, _, e4, t4⟩ := hg 4 _ rfl
    obtain ⟨_, _, e5, t5⟩ := hg 5 _ rfl
    simp at e0 e1 e2 e3 e4 e5
    subst e0 e1 e2 e3 e4 e5
    obtain ⟨m, hm, hw⟩ := msg_trods t0 t1 t2 t3 t4 t5
    exact ⟨m, by rw [hm]; rfl, hw⟩

theorem open_msgs {r : Reach} {b0 : Nat} {v : Value} {d : DataW H} {p : List MemPlace} (hv : Value.okWide Try.prog w r b0 25 v) (h : DataW.Trod enc Try.prog w base spare held 25 v d p) :
    ∃ A n c xs, v = .slice A n c ∧ Ms w w.heap.size A n xs ∧ ∀ m ∈ xs, m.Wf := by
  obtain ⟨A0, n0, c0, rfl⟩ := okWide_slice Try.underlying25 hv
  obtain ⟨fuel, hf⟩ := h
  rcases open_slice Try.underlying25 hf with ⟨hc, _⟩ | ⟨a, len, cap, m, n, D, Pl, hc, _, hl, hm, hmm, _, hx⟩
  · simp [Value.cells] at hc
    obtain ⟨rfl, rfl, rfl⟩ := hc
    exact ⟨none, 0, 0, [], rfl, Lst.nil_, by simp⟩
  · simp [Value.cells] at hc
    obtain ⟨rfl, rfl, rfl⟩ := hc
    have hlm : n0 ≤ m := by rw [hmm]; split <;> omega
    have hc6 : (Try.prog).cellsOf 38 = 6 := by kernel_rfl
    have each : ∀ i, i < n0 → ∃ x : Msg, x.Wf ∧ ∀ j u, x.cs[j]? = some u → w.cell? (a.add (i * 6 + j)) = some u := by
      intro i hi
      obtain ⟨cs', h1, h2⟩ := hx i (by omega)
      rw [hc6] at h1
      obtain ⟨_, hlen, hcell⟩ := World.cells?_some h1
      obtain ⟨ys, k, hk, _, _, hyl, hg⟩ := DataW.trod_struct Try.underlying38 h2
      match ys, hyl, cs', hlen with
      | [y0, y1, y2, y3, y4, y5], _, [c0, c1, c2, c3, c4, c5], _ =>
        have g0 := hg 0 _ rfl
        have g1 := hg 1 _ rfl
        have g2 := hg 2 _ rfl
        have g3 := hg 3 _ rfl
        have g4 := hg 4 _ rfl
        have g5 := hg 5 _ rfl
        obtain ⟨x, hx1, hx2⟩ := msg_trods (c0 := c0) (c1 := c1) (c2 := c2) (c3 := c3) (c4 := c4) (c5 := c5) g0 g1 g2 g3 g4 g5
        refine ⟨x, hx2, fun j u hu => ?_⟩
        rw [← hx1] at hu
        have hj : j < 6 := (List.getElem?_eq_some_iff.1 hu).1
        have := hcell j hj
        rw [hu, Go.Deep.add_add] at this
        exact this
    have hspot : 0 < n0 → a.spot = none := fun h0 => by
      obtain ⟨x, _, hcx⟩ := each 0 h0
      have hc0 := hcx 0 _ rfl
      simpa [Addr.add] using World.cell?_spot hc0
    obtain ⟨f, hfm⟩ : ∃ f : Nat → Msg, ∀ i, i < n0 → (f i).Wf ∧ ∀ j u, (f i).cs[j]? = some u → w.cell? (a.add (i * 6 + j)) = some u := by
      refine ⟨fun i => if h : i < n0 then (each i h).choose else ⟨0, false, 0, 0, 0, ByteArray.empty⟩, fun i hi => ?_⟩
      simp only [hi, dif_pos]
      exact (each i hi).choose_spec
    refine ⟨some a, n0, c0, (List.range n0).map f, rfl, ⟨by simp, by omega, fun h0 => ?_⟩, fun x hx' => ?_⟩
    · obtain ⟨b, off, spot⟩ := a
      have hs := hspot h0
      subst hs
      have hb0 := (hfm 0 h0).2 0 _ rfl
      refine ⟨b, off, rfl, World.block_lt_of_cell? w _ (by rw [addr_add] at hb0; exact hb0), fun i hi j u hu => ?_⟩
      simp only [List.length_map, List.length_range] at hi
      simp only [List.getElem_map, List.getElem_range] at hu
      have := (hfm i hi).2 j u hu
      rw [addr_add, ← Nat.add_assoc] at this
      exact this
    · obtain ⟨i, hi, rfl⟩ := List.mem_map.1 hx'
      exact (hfm i (List.mem_range.1 hi)).1
end
end Go.Proofs.Ytegefnidhdicdaa
