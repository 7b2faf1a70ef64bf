/- How texts, paths and acts that came in are read. -/
import Derived.Test.YtdfpfnofaiobgaaOpn
import Derived.Test.YtdfpfnofaiobgaaPthA
namespace Go.Proofs.Ytdfpfnofaiobgaa
open Go.ChangeShapes Go.WideShapes Go.ChangeAt Go.RowKit Go.Deep
open Go.ChangeMaps (open_string shut_string)
open Go.Proofs.Ytdfpfnofaiobgaa.Rto Go.Proofs.Ytdfpfnofaiobgaa.Win Go.Proofs.Ytdfpfnofaiobgaa.Pth
set_option linter.unusedVariables false
set_option linter.unusedSectionVars false
set_option maxRecDepth 100000

structure PAct where
  op : Int
  i : Int
  now : Int
  nonce : Int
def PAct.cs (a : PAct) : List Value := [.int .i64 a.op, .int .i64 a.i, .int .i64 a.now, .int .u32 a.nonce]
theorem PAct.cs_len (a : PAct) : a.cs.length = 4 := rfl
def PAct.Ok (a : PAct) : Prop := (-9223372036854775808 ≤ a.op ∧ a.op ≤ 9223372036854775807) ∧ (-9223372036854775808 ≤ a.i ∧ a.i ≤ 9223372036854775807) ∧ (-9223372036854775808 ≤ a.now ∧ a.now ≤ 9223372036854775807)
section
variable {H : Type} {enc : TypeId × Value → H} {w : World} {base : Nat} {spare : Nat → Bool} {held : Bool}
theorem open_strs {r : Reach} {b0 : Nat} {v : Value} {d : DataW H} {p : List MemPlace} (hv : Value.okWide Try.prog w r b0 22 v) (h : DataW.Trod enc Try.prog w base spare held 22 v d p) :
    ∃ A n c xs, v = .slice A n c ∧ Lst sc 1 w w.heap.size A n xs ∧ (∀ a ∈ xs, a.size ≤ maxLen) := by
  obtain ⟨A0, n0, c0, rfl⟩ := okWide_slice Try.underlying22 hv
  obtain ⟨fuel, hf⟩ := h
  have hok : Cell.okWide Try.prog w r b0 22 (.slice A0 n0 c0) := by
    unfold Value.okWide at hv
    rw [Try.underlying22] at hv
    exact hv
  obtain ⟨A, n, c, xs, h1, h2, hw, _⟩ := open_list (enc := sc) (k := 1) ByteArray.empty (fun a => a.size ≤ maxLen) Try.underlying22 (by kernel_rfl) (by omega) sc_len (c1 := .slice A0 n0 c0) hf (fun n cs' z hl hz => by
    match cs', hl with
    | [c0], _ =>
      obtain ⟨a5, f5, _, w5⟩ := DataW.trod_string Try.underlying9 hz
      simp only [List.cons.injEq, and_true] at f5
      subst f5
      exact ⟨a5, w5, rfl⟩) (spot_of_cell Try.underlying22 hok)
  exact ⟨A, n, c, xs, h1, h2, hw⟩
theorem open_pacts {r : Reach} {b0 : Nat} {v : Value} {d : DataW H} {p : List MemPlace} (hv : Value.okWide Try.prog w r b0 66 v) (h : DataW.Trod enc Try.prog w base spare held 66 v d p) :
    ∃ A n c xs, v = .slice A n c ∧ Lst PAct.cs 4 w w.heap.size A n xs ∧ (∀ a ∈ xs, a.Ok) := by
  obtain ⟨A0, n0, c0, rfl⟩ := okWide_slice Try.underlying66 hv
  obtain ⟨fuel, hf⟩ := h
  have hok : Cell.okWide Try.prog w r b0 66 (.slice A0 n0 c0) := by
    unfold Value.okWide at hv
    rw [Try.underlying66] at hv
    exact hv
  obtain ⟨A, n, c, xs, h1, h2, hw, _⟩ := open_list (enc := PAct.cs) (k := 4) ⟨0, 0, 0, 0⟩ PAct.Ok Try.underlying66 (by kernel_rfl) (by omega) PAct.cs_len (c1 := .slice A0 n0 c0) hf (fun n cs' z hl hz => by
    obtain ⟨ys, k, hk, _, _, hyl, hg⟩ := DataW.trod_struct Try.underlying68 hz
    match ys, hyl, cs', hl with
    | [y0, y1, y2, y3], _, [c0, c1, c2, c3], _ =>
      obtain ⟨a0, f0, _, w0⟩ := DataW.trod_int Try.underlying3 (show DataW.trod enc Try.prog w base spare held k 3 [c0] = some y0 from hg 0 _ rfl)
      obtain ⟨a1, f1, _, w1⟩ := DataW.trod_int Try.underlying3 (show DataW.trod enc Try.prog w base spare held k 3 [c1] = some y1 from hg 1 _ rfl)
      obtain ⟨a2, f2, _, w2⟩ := DataW.trod_int Try.underlying3 (show DataW.trod enc Try.prog w base spare held k 3 [c2] = some y2 from hg 2 _ rfl)
      obtain ⟨a3, f3, _, w3⟩ := DataW.trod_int Try.underlying46 (show DataW.trod enc Try.prog w base spare held k 46 [c3] = some y3 from hg 3 _ rfl)
      simp only [List.cons.injEq, and_true] at f0 f1 f2 f3
      subst f0 f1 f2 f3
      exact ⟨⟨a0, a1, a2, a3⟩, ⟨bounds_i64 w0, bounds_i64 w1, bounds_i64 w2⟩, rfl⟩) (spot_of_cell Try.underlying66 hok)
  exact ⟨A, n, c, xs, h1, h2, hw⟩
def PBig (p : Pth) : Prop := POk p ∧ p.addr.size ≤ maxLen
theorem open_pths {fuel : Nat} {c1 : Value} {y : DataW H × List MemPlace} (hc : DataW.trod enc Try.prog w base spare held fuel 25 [c1] = some y) (hsp : ∀ a len cap, c1 = .slice (some a) len cap → a.spot = none) :
    ∃ A n c xs, c1 = .slice A n c ∧ Ps w w.heap.size A n xs ∧ okA A n ∧ n ≤ c ∧ ∀ p ∈ xs, POk p := by
  obtain ⟨A, n, c, xs, h1, h2, hw, h3, h4, h5⟩ := open_list (enc := Pth.cs) (k := 14) ⟨ByteArray.empty, 0, 0, 0, 0, 0, 0, false, 0, 0, 0, 0, 0, 0⟩ POk Try.underlying25 (by kernel_rfl) (by omega) cs_len hc (fun n cs' z hl hz => by
    obtain ⟨ys, k, hk, _, _, hyl, hg⟩ := DataW.trod_struct Try.underlying48 hz
    match ys, hyl, cs', hl with
    | [y0, y1, y2, y3, y4, y5, y6, y7], _, [c0, c1, c2, t0, t1, t2, t3, t4, u0, u1, u2, c5, c6, c7], _ =>
      obtain ⟨a0, f0, _, w0⟩ := DataW.trod_string Try.underlying9 (show DataW.trod enc Try.prog w base spare held k 9 [c0] = some y0 from hg 0 _ rfl)
      obtain ⟨a1, f1, _, w1⟩ := DataW.trod_int Try.underlying3 (show DataW.trod enc Try.prog w base spare held k 3 [c1] = some y1 from hg 1 _ rfl)
      obtain ⟨a2, f2, _, w2⟩ := DataW.trod_int Try.underlying3 (show DataW.trod enc Try.prog w base spare held k 3 [c2] = some y2 from hg 2 _ rfl)
      have hT : DataW.trod enc Try.prog w base spare held k 43 [t0, t1, t2, t3, t4] = some y3 := hg 3 _ rfl
      have hU : DataW.trod enc Try.prog w base spare held k 45 [u0, u1, u2] = some y4 := hg 4 _ rfl
      obtain ⟨a5, f5, _, w5⟩ := DataW.trod_int Try.underlying46 (show DataW.trod enc Try.prog w base spare held k 46 [c5] = some y5 from hg 5 _ rfl)
      obtain ⟨a6, f6, _, w6⟩ := DataW.trod_int Try.underlying3 (show DataW.trod enc Try.prog w base spare held k 3 [c6] = some y6 from hg 6 _ rfl)
      obtain ⟨a7, f7, _, w7⟩ := DataW.trod_int Try.underlying3 (show DataW.trod enc Try.prog w base spare held k 3 [c7] = some y7 from hg 7 _ rfl)
      obtain ⟨xs, k2, _, _, _, hxl, gg⟩ := DataW.trod_struct Try.underlying43 hT
      obtain ⟨zs, k3, _, _, _, hzl, gz⟩ := DataW.trod_struct Try.underlying45 hU
      match xs, hxl, zs, hzl with
      | [x0, x1, x2, x3, x4], _, [z0, z1, z2], _ =>
        obtain ⟨a10, f10, _, w10⟩ := DataW.trod_int Try.underlying3 (show DataW.trod enc Try.prog w base spare held k2 3 [t0] = some x0 from gg 0 _ rfl)
        obtain ⟨a11, f11, _, w11⟩ := DataW.trod_int Try.underlying3 (show DataW.trod enc Try.prog w base spare held k2 3 [t1] = some x1 from gg 1 _ rfl)
        obtain ⟨a12, f12, _, w12⟩ := DataW.trod_int Try.underlying3 (show DataW.trod enc Try.prog w base spare held k2 3 [t2] = some x2 from gg 2 _ rfl)
        obtain ⟨a13, f13, _, w13⟩ := DataW.trod_int Try.underlying3 (show DataW.trod enc Try.prog w base spare held k2 3 [t3] = some x3 from gg 3 _ rfl)
        obtain ⟨a14, f14, _⟩ := DataW.trod_bool Try.underlying4 (show DataW.trod enc Try.prog w base spare held k2 4 [t4] = some x4 from gg 4 _ rfl)
        obtain ⟨a20, f20, _, w20⟩ := DataW.trod_int Try.underlying3 (show DataW.trod enc Try.prog w base spare held k3 3 [u0] = some z0 from gz 0 _ rfl)
        obtain ⟨a21, f21, _, w21⟩ := DataW.trod_int Try.underlying3 (show DataW.trod enc Try.prog w base spare held k3 3 [u1] = some z1 from gz 1 _ rfl)
        obtain ⟨a22, f22, _, w22⟩ := DataW.trod_int Try.underlying3 (show DataW.trod enc Try.prog w base spare held k3 3 [u2] = some z2 from gz 2 _ rfl)
        simp only [List.cons.injEq, and_true] at f0 f1 f2 f5 f6 f7 f10 f11 f12 f13 f14 f20 f21 f22
        subst f0 f1 f2 f5 f6 f7 f10 f11 f12 f13 f14 f20 f21 f22
        exact ⟨⟨a0, a1, a2, a10, a11, a12, a13, a14, a20, a21, a22, a5, a6, a7⟩, ⟨bounds_i64 w1, bounds_i64 w2, bounds_i64 w13⟩, rfl⟩) hsp
  exact ⟨A, n, c, xs, h1, h2, h3, h4, hw⟩
theorem open_paths {r : Reach} {b0 : Nat} {v : Value} {d : DataW H} {p : List MemPlace} (hv : Value.okWide Try.prog w r b0 27 v) (h : DataW.Trod enc Try.prog w base spare held 27 v d p) :
    ∃ A n c pr al ps, v = .agg #[.slice A n c, .int .i64 pr, .int .i64 al] ∧ Ps w w.heap.size A n ps ∧ okA A n ∧ (∀ p ∈ ps, POk p) ∧ (-9223372036854775808 ≤ pr ∧ pr ≤ 9223372036854775807) ∧ (-9223372036854775808 ≤ al ∧ al ≤ 9223372036854775807) := by
  obtain ⟨cs, rfl, hsz, ts, hts, _, hcell⟩ : ∃ cs, v = .agg cs ∧ cs.size = (Try.prog).cellsOf 27 ∧ Row.okWide Try.prog w r b0 27 cs := by
    unfold Value.okWide at hv
    rw [Try.underlying27] at hv
    exact hv
  have h2 : (Try.prog).cellsOf 27 = 3 := by kernel_rfl
  have hts' : (Try.prog).cellTypes (Try.prog).depth 27 = some [25, 3, 3] := by kernel_rfl
  rw [hts'] at hts
  injection hts with hts
  subst hts
  rw [h2] at hsz
  obtain ⟨l⟩ := cs
  match l, hsz with
  | [c0, c1, c2], _ =>
    obtain ⟨u1, hu1, hok1⟩ := hcell 0 c0 rfl
    simp only [List.length_cons, List.length_nil] at hu1
    obtain rfl : u1 = 25 := by simpa using hu1.symm
    obtain ⟨fuel, hf⟩ := h
    obtain ⟨xs, n, _, hx, _, hxl, hg⟩ := DataW.trod_struct Try.underlying27 hf
    match xs, hxl with
    | [y0, y1, y2], _ =>
      obtain ⟨A, m, c, ps, e1, e2, e3, e4, e5⟩ := open_pths (show DataW.trod enc Try.prog w base spare held n 25 [c0] = some y0 from hg 0 _ rfl) (spot_of_cell Try.underlying25 hok1)
      obtain ⟨a1, f1, _, w1⟩ := DataW.trod_int Try.underlying3 (show DataW.trod enc Try.prog w base spare held n 3 [c1] = some y1 from hg 1 _ rfl)
      obtain ⟨a2, f2, _, w2⟩ := DataW.trod_int Try.underlying3 (show DataW.trod enc Try.prog w base spare held n 3 [c2] = some y2 from hg 2 _ rfl)
      simp only [List.cons.injEq, and_true] at f1 f2
      subst f1 f2 e1
      exact ⟨A, m, c, a1, a2, ps, rfl, e2, e3, e5, bounds_i64 w1, bounds_i64 w2⟩
end
end Go.Proofs.Ytdfpfnofaiobgaa
