/- How an argument that is a struct of one-cell fields is opened: its cells, each with its own reading. Of whatever program. -/
import Derived.Test.YtdfpfnofaiobgaaRows
import Derived.ProofKit
import Derived.OpenShut
import Derived.ShutString
import Derived.ChangeOld
import Derived.Deep.Fields
import Derived.Below
namespace Go.Proofs.Ytdfpfnofaiobgaa
open Go.ChangeShapes Go.WideShapes Go.ChangeAt Go.RowKit Go.Deep

section
variable {H : Type} {enc : TypeId × Value → H} {P : Program} {w : World} {base : Nat} {spare : Nat → Bool} {held : Bool}
theorem open_flat {r : Reach} {b0 : Nat} {t : TypeId} {fs : Array Field} {v : Value} {d : DataW H} {p : List MemPlace} (hs : P.underlying t = some (.struct fs)) (hone : oneCellFields P fs = true)
    (hC : P.cellsOf t = fs.size) (hv : Value.okWide P w r b0 t v) (h : DataW.Trod enc P w base spare held t v d p) :
    ∃ l : List Value, v = .agg l.toArray ∧ l.length = fs.size ∧ ∃ n, ∀ (j : Nat) (f : Field), fs[j]? = some f → ∃ c y, l[j]? = some c ∧ DataW.trod enc P w base spare held n f.type [c] = some y := by
  obtain ⟨cs, rfl, hsz⟩ := okWide_struct hs hv
  obtain ⟨l⟩ := cs
  have hl : l.length = fs.size := by simpa using hsz.trans hC
  obtain ⟨fuel, hf⟩ := h
  obtain ⟨xs, n, _, _, _, hx, hg⟩ := DataW.trod_struct hs hf
  refine ⟨l, rfl, hl, n, fun j f hj => ?_⟩
  have hjl : j < fs.size := (Array.getElem?_eq_some_iff.1 hj).1
  obtain ⟨ho, hk⟩ := hone_of hone j f hj
  have h1 := hg j f hj
  simp only [Value.cells] at h1
  rw [ho, hk] at h1
  have hd : (l.drop j).take 1 = [l[j]'(by omega)] := by
    rw [List.drop_eq_getElem_cons (by omega)]
    rfl
  rw [hd] at h1
  exact ⟨l[j]'(by omega), xs[j]'(by omega), List.getElem?_eq_getElem (by omega), h1.trans (List.getElem?_eq_getElem (by omega))⟩
end

theorem open_timer {H : Type} {enc : TypeId × Value → H} {w : World} {base : Nat} {spare : Nat → Bool} {held : Bool} {r : Reach} {b0 : Nat} {v : Value} {d : DataW H} {p : List MemPlace} (hv : Value.okWide Try.prog w r b0 43 v)
    (h : DataW.Trod enc Try.prog w base spare held 43 v d p) : ∃ (a0 a1 a2 a3 : Int) (k : Bool), v = .agg #[.int .i64 a0, .int .i64 a1, .int .i64 a2, .int .i64 a3, .bool k] ∧
    (Lit.int .i64 a0).wf = true ∧ (Lit.int .i64 a1).wf = true ∧ (Lit.int .i64 a2).wf = true ∧ (Lit.int .i64 a3).wf = true := by
  obtain ⟨l, rfl, hl, n, hg⟩ := open_flat Try.underlying43 (by kernel_rfl) (by kernel_rfl) hv h
  match l, hl with
  | [c0, c1, c2, c3, c4], _ =>
    obtain ⟨_, _, e0, t0⟩ := hg 0 _ rfl
    obtain ⟨_, _, e1, t1⟩ := hg 1 _ rfl
    obtain ⟨_, _, e2, t2⟩ := hg 2 _ rfl
    obtain ⟨_, _, e3, t3⟩ := hg 3 _ rfl
    obtain ⟨_, _, e4, t4⟩ := hg 4 _ rfl
    obtain ⟨a0, f0, _, w0⟩ := DataW.trod_int Try.underlying3 t0
    obtain ⟨a1, f1, _, w1⟩ := DataW.trod_int Try.underlying3 t1
    obtain ⟨a2, f2, _, w2⟩ := DataW.trod_int Try.underlying3 t2
    obtain ⟨a3, f3, _, w3⟩ := DataW.trod_int Try.underlying3 t3
    obtain ⟨k, f4, _⟩ := DataW.trod_bool Try.underlying4 t4
    simp at e0 e1 e2 e3 e4 f0 f1 f2 f3 f4
    subst e0 e1 e2 e3 e4 f0 f1 f2 f3 f4
    exact ⟨a0, a1, a2, a3, k, rfl, w0, w1, w2, w3⟩

theorem open_window {H : Type} {enc : TypeId × Value → H} {w : World} {base : Nat} {spare : Nat → Bool} {held : Bool} {r : Reach} {b0 : Nat} {v : Value} {d : DataW H} {p : List MemPlace} (hv : Value.okWide Try.prog w r b0 45 v)
    (h : DataW.Trod enc Try.prog w base spare held 45 v d p) : ∃ (a0 a1 a2 : Int), v = .agg #[.int .i64 a0, .int .i64 a1, .int .i64 a2] ∧
    (Lit.int .i64 a0).wf = true ∧ (Lit.int .i64 a1).wf = true ∧ (Lit.int .i64 a2).wf = true := by
  obtain ⟨l, rfl, hl, n, hg⟩ := open_flat Try.underlying45 (by kernel_rfl) (by kernel_rfl) hv h
  match l, hl with
  | [c0, c1, c2], _ =>
    obtain ⟨_, _, e0, t0⟩ := hg 0 _ rfl
    obtain ⟨_, _, e1, t1⟩ := hg 1 _ rfl
    obtain ⟨_, _, e2, t2⟩ := hg 2 _ rfl
    obtain ⟨a0, f0, _, w0⟩ := DataW.trod_int Try.underlying3 t0
    obtain ⟨a1, f1, _, w1⟩ := DataW.trod_int Try.underlying3 t1
    obtain ⟨a2, f2, _, w2⟩ := DataW.trod_int Try.underlying3 t2
    simp at e0 e1 e2 f0 f1 f2
    subst e0 e1 e2 f0 f1 f2
    exact ⟨a0, a1, a2, rfl, w0, w1, w2⟩
end Go.Proofs.Ytdfpfnofaiobgaa
