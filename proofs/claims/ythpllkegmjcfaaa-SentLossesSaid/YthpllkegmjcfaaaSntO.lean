/- How a sent, and gaps, that came in are read. -/
import Derived.Test.YthpllkegmjcfaaaOpn
import Derived.Test.YthpllkegmjcfaaaSntL
import Derived.SizedLaws
namespace Go.Proofs.Ythpllkegmjcfaaa
open Go.ChangeShapes Go.WideShapes Go.ChangeAt Go.RowKit Go.Deep
set_option linter.unusedVariables false

section
variable {H : Type} {enc : TypeId × Value → H} {w : World} {base : Nat} {spare : Nat → Bool} {held : Bool}
theorem open_pieces {fuel : Nat} {c1 : Value} {y : DataW H × List MemPlace} (hc : DataW.trod enc Try.prog w base spare held fuel 23 [c1] = some y) (hsp : ∀ a len cap, c1 = .slice (some a) len cap → a.spot = none) :
    ∃ A n c xs, c1 = .slice A n c ∧ Ps w w.heap.size A n xs ∧ okA A n ∧ n ≤ c ∧ (n = 0 ∨ ∃ elems rest, y.1 = .slice elems rest ∧ elems.length = n) := by
  obtain ⟨A, n, c, xs, h1, h2, _, h3, h4, h5⟩ := open_list (enc := Pc.cs) (k := 7) ⟨0, 0, 0, 0, 0, 0, 0⟩ (fun _ => True) Try.underlying23 (by kernel_rfl) (by omega) Pc.cs_len hc (fun n cs' z hl hz => by
    obtain ⟨ys, k, hk, _, _, hyl, hg⟩ := DataW.trod_struct Try.underlying41 hz
    match ys, hyl, cs', hl with
    | [y0, y1, y2, y3, y4, y5, y6], _, [c0, c1, c2, c3, c4, c5, c6], _ =>
      obtain ⟨a0, f0, _, _⟩ := DataW.trod_int Try.underlying22 (show DataW.trod enc Try.prog w base spare held k 22 [c0] = some y0 from hg 0 _ rfl)
      obtain ⟨a1, f1, _, _⟩ := DataW.trod_int Try.underlying3 (show DataW.trod enc Try.prog w base spare held k 3 [c1] = some y1 from hg 1 _ rfl)
      obtain ⟨a2, f2, _, _⟩ := DataW.trod_int Try.underlying3 (show DataW.trod enc Try.prog w base spare held k 3 [c2] = some y2 from hg 2 _ rfl)
      obtain ⟨a3, f3, _, _⟩ := DataW.trod_int Try.underlying3 (show DataW.trod enc Try.prog w base spare held k 3 [c3] = some y3 from hg 3 _ rfl)
      obtain ⟨a4, f4, _, _⟩ := DataW.trod_int Try.underlying3 (show DataW.trod enc Try.prog w base spare held k 3 [c4] = some y4 from hg 4 _ rfl)
      obtain ⟨a5, f5, _, _⟩ := DataW.trod_int Try.underlying3 (show DataW.trod enc Try.prog w base spare held k 3 [c5] = some y5 from hg 5 _ rfl)
      obtain ⟨a6, f6, _, _⟩ := DataW.trod_int Try.underlying3 (show DataW.trod enc Try.prog w base spare held k 3 [c6] = some y6 from hg 6 _ rfl)
      simp only [List.cons.injEq, and_true] at f0 f1 f2 f3 f4 f5 f6
      subst f0 f1 f2 f3 f4 f5 f6
      exact ⟨⟨a0, a1, a2, a3, a4, a5, a6⟩, trivial, rfl⟩) hsp
  exact ⟨A, n, c, xs, h1, h2, h3, h4, h5⟩
theorem open_sent {r : Reach} {b0 : Nat} {v : Value} {d : DataW H} {p : List MemPlace} (hv : Value.okWide Try.prog w r b0 25 v) (h : DataW.Trod enc Try.prog w base spare held 25 v d p) :
    ∃ cum A n c ps, v = .agg #[.int .u32 cum, .slice A n c] ∧ (Lit.int .u32 cum).wf = true ∧ Ps w w.heap.size A n ps ∧ okA A n ∧ n ≤ c ∧ (n = 0 ∨ ∃ x elems rest, d = .agg [x, .slice elems rest] ∧ elems.length = n) := by
  obtain ⟨cs, rfl, hsz, ts, hts, _, hcell⟩ : ∃ cs, v = .agg cs ∧ cs.size = (Try.prog).cellsOf 25 ∧ Row.okWide Try.prog w r b0 25 cs := by
    unfold Value.okWide at hv
    rw [Try.underlying25] at hv
    exact hv
  have h2 : (Try.prog).cellsOf 25 = 2 := by kernel_rfl
  have hts' : (Try.prog).cellTypes (Try.prog).depth 25 = some [22, 23] := by kernel_rfl
  rw [hts'] at hts
  injection hts with hts
  subst hts
  rw [h2] at hsz
  obtain ⟨l⟩ := cs
  match l, hsz with
  | [c0, c1], _ =>
    obtain ⟨u1, hu1, hok1⟩ := hcell 1 c1 rfl
    simp only [List.length_cons, List.length_nil] at hu1
    obtain rfl : u1 = 23 := by simpa using hu1.symm
    obtain ⟨fuel, hf⟩ := h
    obtain ⟨xs, n, _, hx, _, hxl, hg⟩ := DataW.trod_struct Try.underlying25 hf
    match xs, hxl with
    | [y0, y1], _ =>
      obtain ⟨a0, f0, _, w0⟩ := DataW.trod_int Try.underlying22 (show DataW.trod enc Try.prog w base spare held n 22 [c0] = some y0 from hg 0 _ rfl)
      obtain ⟨A, m, c, ps, e1, e2, e3, e4, e5⟩ := open_pieces (show DataW.trod enc Try.prog w base spare held n 23 [c1] = some y1 from hg 1 _ rfl) (spot_of_cell Try.underlying23 hok1)
      simp only [List.cons.injEq, and_true] at f0
      subst f0 e1
      refine ⟨a0, A, m, c, ps, rfl, w0, e2, e3, e4, e5.imp id fun ⟨elems, rest, hy, hl⟩ => ⟨y0.1, elems, rest, ?_, hl⟩⟩
      injection hx with hx _
      rw [hx, ← hy]
      rfl
theorem open_gaps {r : Reach} {b0 : Nat} {v : Value} {d : DataW H} {p : List MemPlace} (hv : Value.okWide Try.prog w r b0 26 v) (h : DataW.Trod enc Try.prog w base spare held 26 v d p) :
    ∃ A n c gs, v = .slice A n c ∧ Lst gC 2 w w.heap.size A n gs ∧ (∀ g ∈ gs, g.1 ≤ 65535 ∧ g.2 ≤ 65535) := by
  obtain ⟨A0, n0, c0, rfl⟩ := okWide_slice Try.underlying26 hv
  obtain ⟨fuel, hf⟩ := h
  have hok : Cell.okWide Try.prog w r b0 26 (.slice A0 n0 c0) := by
    unfold Value.okWide at hv
    rw [Try.underlying26] at hv
    exact hv
  obtain ⟨A, n, c, xs, h1, h2, hw, h3, h4, h5⟩ := open_list (enc := gC) (k := 2) ((0, 0) : Nat × Nat) (fun g => g.1 ≤ 65535 ∧ g.2 ≤ 65535) Try.underlying26 (by kernel_rfl) (by omega) gC_len (c1 := .slice A0 n0 c0) hf (fun n cs' z hl hz => by
    obtain ⟨ys, k, hk, _, _, hyl, hg⟩ := DataW.trod_array Try.underlying55 hz
    match ys, hyl, cs', hl with
    | [y0, y1], _, [c0, c1], _ =>
      obtain ⟨a0, f0, _, w0⟩ := DataW.trod_int Try.underlying54 (show DataW.trod enc Try.prog w base spare held k 54 [c0] = some y0 from hg 0 (by omega))
      obtain ⟨a1, f1, _, w1⟩ := DataW.trod_int Try.underlying54 (show DataW.trod enc Try.prog w base spare held k 54 [c1] = some y1 from hg 1 (by omega))
      simp only [List.cons.injEq, and_true] at f0 f1
      subst f0 f1
      have b0 := bounds_u16 w0
      have b1 := bounds_u16 w1
      obtain ⟨m0, rfl⟩ := Int.eq_ofNat_of_zero_le b0.1
      obtain ⟨m1, rfl⟩ := Int.eq_ofNat_of_zero_le b1.1
      exact ⟨(m0, m1), ⟨by simp only; omega, by simp only; omega⟩, rfl⟩) (spot_of_cell Try.underlying26 hok)
  exact ⟨A, n, c, xs, h1, h2, hw⟩
theorem sized_sent {ts : List TypeId} {ds : List (DataW H)} {j n : Nat} {d : DataW H} (h : (DataW.weightsEach Try.prog ts ds).all (· ≤ reachBytes) = true) (ht : ts[j]? = some 25) (hd : ds[j]? = some d)
    (hz : n = 0 ∨ ∃ x elems rest, d = .agg [x, .slice elems rest] ∧ elems.length = n) : n * 56 ≤ 140737488355328 := by
  rcases hz with rfl | ⟨x, elems, rest, rfl, rfl⟩
  · omega
  · have hb : (Try.prog).bytesOf 41 = 56 := by kernel_rfl
    have := List.all_eq_true.1 h _ (DataW.weights_mem_each ht hd ((elems.length + rest.length) * (Try.prog).bytesOf 41) (by
      simp [DataW.weights, DataW.weightsEach, Try.underlying25, Try.underlying23]))
    rw [hb] at this
    have h2 := of_decide_eq_true this
    have h3 := reachBytes_lt
    omega
end
end Go.Proofs.Ythpllkegmjcfaaa
