/- How pieces that came in are read. -/
import Derived.Test.YtaopomedbbcgcaaFrV
import Derived.Test.YtaopomedbbcgcaaOpn
namespace Go.Proofs.Ytaopomedbbcgcaa
open Go.ChangeShapes Go.WideShapes Go.ChangeAt Go.RowKit Go.Deep
set_option linter.unusedVariables false

/-- What is so of every piece that a memory can hold. -/
structure Fr.Fp.In (x : Fr.Fp) : Prop where
  tsn : 0 ≤ x.tsn ∧ x.tsn < 4294967296
  text : x.tx.length ≤ maxLen
section
variable {H : Type} {enc : TypeId × Value → H} {w : World} {base : Nat} {spare : Nat → Bool} {held : Bool}
theorem pc_trods {n : Nat} {c0 c1 c2 c3 c4 c5 c6 c7 : Value} {y0 y1 y2 y3 y4 y5 y6 y7 : DataW H × List MemPlace} (t0 : DataW.trod enc Try.prog w base spare held n 29 [c0] = some y0) (t1 : DataW.trod enc Try.prog w base spare held n 4 [c1] = some y1)
    (t2 : DataW.trod enc Try.prog w base spare held n 4 [c2] = some y2) (t3 : DataW.trod enc Try.prog w base spare held n 4 [c3] = some y3)
    (t4 : DataW.trod enc Try.prog w base spare held n 32 [c4] = some y4) (t5 : DataW.trod enc Try.prog w base spare held n 32 [c5] = some y5) (t6 : DataW.trod enc Try.prog w base spare held n 29 [c6] = some y6)
    (t7 : DataW.trod enc Try.prog w base spare held n 9 [c7] = some y7) : ∃ m : Fr.Fp, [c0, c1, c2, c3, c4, c5, c6, c7] = m.cs ∧ m.In := by
  obtain ⟨a0, f0, _, w0⟩ := DataW.trod_int Try.underlying29 t0
  obtain ⟨a1, f1, _⟩ := DataW.trod_bool Try.underlying4 t1
  obtain ⟨a2, f2, _⟩ := DataW.trod_bool Try.underlying4 t2
  obtain ⟨a3, f3, _⟩ := DataW.trod_bool Try.underlying4 t3
  obtain ⟨a4, f4, _, w4⟩ := DataW.trod_int Try.underlying32 t4
  obtain ⟨a5, f5, _, w5⟩ := DataW.trod_int Try.underlying32 t5
  obtain ⟨a6, f6, _, w6⟩ := DataW.trod_int Try.underlying29 t6
  obtain ⟨a7, f7, _, w7⟩ := DataW.trod_string Try.underlying9 t7
  simp only [List.cons.injEq, and_true] at f0 f1 f2 f3 f4 f5 f6 f7
  subst f0 f1 f2 f3 f4 f5 f6 f7
  have g0 : 0 ≤ a0 ∧ a0 ≤ 4294967295 := by simpa [Lit.wf, IntKind.min, IntKind.max, IntKind.bits, IntKind.signed] using w0
  exact ⟨⟨a0, a1, a2, a3, a4, a5, a6, a7.data.toList⟩, by show _ = [_, _, _, _, _, _, _, Value.string (bs a7.data.toList)]; rw [bs_eta], ⟨by simp only; omega, w7⟩⟩
theorem open_pc {r : Reach} {b0 : Nat} {v : Value} {d : DataW H} {p : List MemPlace} (hv : Value.okWide Try.prog w r b0 34 v) (h : DataW.Trod enc Try.prog w base spare held 34 v d p) :
    ∃ m : Fr.Fp, v = pcv m ∧ m.In := by
  obtain ⟨l, rfl, hl, n, hg⟩ := open_flat Try.underlying34 (by kernel_rfl) (by kernel_rfl) hv h
  match l, hl with
  | [c0, c1, c2, c3, c4, c5, c6, c7], _ =>
    obtain ⟨_, _, e0, t0⟩ := hg 0 _ rfl
    obtain ⟨_, _, e1, t1⟩ := hg 1 _ rfl
    obtain ⟨_, _, e2, t2⟩ := hg 2 _ rfl
    obtain ⟨_, _, e3, t3⟩ := hg 3 _ rfl
    obtain ⟨_, _, e4, t4⟩ := hg 4 _ rfl
    obtain ⟨_, _, e5, t5⟩ := hg 5 _ rfl
    obtain ⟨_, _, e6, t6⟩ := hg 6 _ rfl
    obtain ⟨_, _, e7, t7⟩ := hg 7 _ rfl
    simp at e0 e1 e2 e3 e4 e5 e6 e7
    subst e0 e1 e2 e3 e4 e5 e6 e7
    obtain ⟨m, hm, hw⟩ := pc_trods t0 t1 t2 t3 t4 t5 t6 t7
    exact ⟨m, by rw [hm], hw⟩
theorem open_pcs {r : Reach} {b0 : Nat} {v : Value} {d : DataW H} {p : List MemPlace} (hv : Value.okWide Try.prog w r b0 31 v) (h : DataW.Trod enc Try.prog w base spare held 31 v d p) :
    ∃ A n c xs, v = .slice A n c ∧ Lst Fr.Fp.cs 8 w w.heap.size A n xs ∧ (∀ a ∈ xs, a.In) := by
  obtain ⟨A0, n0, c0, rfl⟩ := okWide_slice Try.underlying31 hv
  obtain ⟨fuel, hf⟩ := h
  have hok : Cell.okWide Try.prog w r b0 31 (.slice A0 n0 c0) := by
    unfold Value.okWide at hv
    rw [Try.underlying31] at hv
    exact hv
  obtain ⟨A, n, c, xs, h1, h2, hw, _⟩ := open_list (enc := Fr.Fp.cs) (k := 8) (⟨0, false, false, false, 0, 0, 0, []⟩ : Fr.Fp) Fr.Fp.In Try.underlying31 (by kernel_rfl) (by omega) Fr.Fp.cs_len (c1 := .slice A0 n0 c0) hf (fun n cs' z hl hz => by
    obtain ⟨ys, k, hk, _, _, hyl, hg⟩ := DataW.trod_struct Try.underlying34 hz
    match ys, hyl, cs', hl with
    | [y0, y1, y2, y3, y4, y5, y6, y7], _, [c0, c1, c2, c3, c4, c5, c6, c7], _ =>
      have g0 := hg 0 _ rfl
      have g1 := hg 1 _ rfl
      have g2 := hg 2 _ rfl
      have g3 := hg 3 _ rfl
      have g4 := hg 4 _ rfl
      have g5 := hg 5 _ rfl
      have g6 := hg 6 _ rfl
      have g7 := hg 7 _ rfl
      obtain ⟨m, hm, hmw⟩ := pc_trods (c0 := c0) (c1 := c1) (c2 := c2) (c3 := c3) (c4 := c4) (c5 := c5) (c6 := c6) (c7 := c7) g0 g1 g2 g3 g4 g5 g6 g7
      exact ⟨m, hmw, hm.symm⟩) (spot_of_cell Try.underlying31 hok)
  exact ⟨A, n, c, xs, h1, h2, hw⟩
end
end Go.Proofs.Ytaopomedbbcgcaa
