/- How acts that came in are read. -/
import Derived.Test.YtegefnidhdicdaaOrdPlw
import Derived.Test.YtegefnidhdicdaaMsgOpen
namespace Go.Proofs.Ytegefnidhdicdaa
open Go.ChangeShapes Go.WideShapes Go.ChangeAt Go.RowKit Go.Deep
set_option linter.unusedVariables false

section
variable {H : Type} {enc : TypeId × Value → H} {w : World} {base : Nat} {spare : Nat → Bool} {held : Bool}
theorem open_oacts {r : Reach} {b0 : Nat} {v : Value} {d : DataW H} {p : List MemPlace} (hv : Value.okWide Try.prog w r b0 47 v) (h : DataW.Trod enc Try.prog w base spare held 47 v d p) :
    ∃ A n c xs, v = .slice A n c ∧ Lst OAct.cs 8 w w.heap.size A n xs ∧ (∀ a ∈ xs, a.Ok ∧ a.m.text.size ≤ maxLen) := by
  obtain ⟨A0, n0, c0, rfl⟩ := okWide_slice Try.underlying47 hv
  obtain ⟨fuel, hf⟩ := h
  have hok : Cell.okWide Try.prog w r b0 47 (.slice A0 n0 c0) := by
    unfold Value.okWide at hv
    rw [Try.underlying47] at hv
    exact hv
  obtain ⟨A, n, c, xs, h1, h2, hw, _⟩ := open_list (enc := OAct.cs) (k := 8) (⟨0, 0, ⟨0, false, 0, 0, 0, ByteArray.empty⟩⟩ : OAct) (fun a => a.Ok ∧ a.m.text.size ≤ maxLen) Try.underlying47 (by kernel_rfl) (by omega) OAct.cs_len (c1 := .slice A0 n0 c0) hf (fun n cs' z hl hz => by
    obtain ⟨ys, k, hk, _, _, hyl, hg⟩ := DataW.trod_struct Try.underlying55 hz
    match ys, hyl, cs', hl with
    | [y0, y1, y2], _, [c0, c1, d0, d1, d2, d3, d4, d5], _ =>
      obtain ⟨a0, f0, _, w0⟩ := DataW.trod_int Try.underlying3 (show DataW.trod enc Try.prog w base spare held k 3 [c0] = some y0 from hg 0 _ rfl)
      obtain ⟨a1, f1, _, w1⟩ := DataW.trod_int Try.underlying3 (show DataW.trod enc Try.prog w base spare held k 3 [c1] = some y1 from hg 1 _ rfl)
      have h2 : DataW.trod enc Try.prog w base spare held k 38 [d0, d1, d2, d3, d4, d5] = some y2 := hg 2 _ rfl
      obtain ⟨us, k2, hk2, _, _, hul, gg⟩ := DataW.trod_struct Try.underlying38 h2
      match us, hul with
      | [u0, u1, u2, u3, u4, u5], _ =>
        have g0 := gg 0 _ rfl
        have g1 := gg 1 _ rfl
        have g2 := gg 2 _ rfl
        have g3 := gg 3 _ rfl
        have g4 := gg 4 _ rfl
        have g5 := gg 5 _ rfl
        obtain ⟨m, hm, hmw⟩ := msg_trods (c0 := d0) (c1 := d1) (c2 := d2) (c3 := d3) (c4 := d4) (c5 := d5) g0 g1 g2 g3 g4 g5
        simp only [List.cons.injEq, and_true] at f0 f1
        subst f0 f1
        refine ⟨⟨a0, a1, m⟩, ⟨⟨bounds_i64 w0, bounds_i64 w1, bounds_u16 hmw.stream, bounds_u16 hmw.ssn⟩, hmw.text⟩, ?_⟩
        show (Value.int .i64 a0 :: Value.int .i64 a1 :: m.cs) = _
        rw [← hm]) (spot_of_cell Try.underlying47 hok)
  exact ⟨A, n, c, xs, h1, h2, hw⟩
end
end Go.Proofs.Ytegefnidhdicdaa
