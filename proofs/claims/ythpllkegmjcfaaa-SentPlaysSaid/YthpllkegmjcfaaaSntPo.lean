/- How acts that came in are read. -/
import Derived.Test.YthpllkegmjcfaaaOpn
import Derived.Test.YthpllkegmjcfaaaSntPw
namespace Go.Proofs.Ythpllkegmjcfaaa
open Go.ChangeShapes Go.WideShapes Go.ChangeAt Go.RowKit Go.Deep
set_option linter.unusedVariables false

section
variable {H : Type} {enc : TypeId × Value → H} {w : World} {base : Nat} {spare : Nat → Bool} {held : Bool}
theorem open_acts {r : Reach} {b0 : Nat} {v : Value} {d : DataW H} {p : List MemPlace} (hv : Value.okWide Try.prog w r b0 51 v) (h : DataW.Trod enc Try.prog w base spare held 51 v d p) :
    ∃ A n c xs, v = .slice A n c ∧ Lst Act6.cs 6 w w.heap.size A n xs ∧ (∀ a ∈ xs, a.Ok) := by
  obtain ⟨A0, n0, c0, rfl⟩ := okWide_slice Try.underlying51 hv
  obtain ⟨fuel, hf⟩ := h
  have hok : Cell.okWide Try.prog w r b0 51 (.slice A0 n0 c0) := by
    unfold Value.okWide at hv
    rw [Try.underlying51] at hv
    exact hv
  obtain ⟨A, n, c, xs, h1, h2, hw, _⟩ := open_list (enc := Act6.cs) (k := 6) (⟨0, 0, 0, 0, 0, 0⟩ : Act6) Act6.Ok Try.underlying51 (by kernel_rfl) (by omega) Act6.cs_len (c1 := .slice A0 n0 c0) hf (fun n cs' z hl hz => by
    obtain ⟨ys, k, hk, _, _, hyl, hg⟩ := DataW.trod_struct Try.underlying53 hz
    match ys, hyl, cs', hl with
    | [y0, y1, y2, y3, y4, y5], _, [c0, c1, c2, c3, c4, c5], _ =>
      obtain ⟨a0, f0, _, w0⟩ := DataW.trod_int Try.underlying3 (show DataW.trod enc Try.prog w base spare held k 3 [c0] = some y0 from hg 0 _ rfl)
      obtain ⟨a1, f1, _, w1⟩ := DataW.trod_int Try.underlying3 (show DataW.trod enc Try.prog w base spare held k 3 [c1] = some y1 from hg 1 _ rfl)
      obtain ⟨a2, f2, _, w2⟩ := DataW.trod_int Try.underlying3 (show DataW.trod enc Try.prog w base spare held k 3 [c2] = some y2 from hg 2 _ rfl)
      obtain ⟨a3, f3, _, w3⟩ := DataW.trod_int Try.underlying3 (show DataW.trod enc Try.prog w base spare held k 3 [c3] = some y3 from hg 3 _ rfl)
      obtain ⟨a4, f4, _, w4⟩ := DataW.trod_int Try.underlying3 (show DataW.trod enc Try.prog w base spare held k 3 [c4] = some y4 from hg 4 _ rfl)
      obtain ⟨a5, f5, _, w5⟩ := DataW.trod_int Try.underlying3 (show DataW.trod enc Try.prog w base spare held k 3 [c5] = some y5 from hg 5 _ rfl)
      simp only [List.cons.injEq, and_true] at f0 f1 f2 f3 f4 f5
      subst f0 f1 f2 f3 f4 f5
      exact ⟨⟨a0, a1, a2, a3, a4, a5⟩, ⟨bounds_i64 w0, bounds_i64 w1, bounds_i64 w2, bounds_i64 w3, bounds_i64 w4, bounds_i64 w5⟩, rfl⟩) (spot_of_cell Try.underlying51 hok)
  exact ⟨A, n, c, xs, h1, h2, hw⟩
end
end Go.Proofs.Ythpllkegmjcfaaa
