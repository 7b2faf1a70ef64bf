/- The test of two arrays of integers, over symbolic states. Of whatever program. -/
import Derived.Test.YthbhjnmkbmmcnaaEqs
import Derived.ChangeKeysEq
namespace Go.Proofs.Ythbhjnmkbmmcnaa
open Go.RowKit Go.IntWalk
set_option linter.unusedVariables false
set_option linter.unusedSectionVars false

section
variable {P : Program} {w0 : World} {D : Nat → Prop} {n : Nat} [Dfr] {τ : Tm} {H : List Item} {o : Oper}
theorem run_eqItems_ints {w : World} {e : TypeId} {k : IntKind} (he : P.underlying e = some (.int k)) (d : Nat) (xs ys : List Int) : ∀ is : List Nat, (∀ i ∈ is, i < xs.length ∧ i < ys.length) →
    (Op.eqItems (d + 1) e 1 (xs.map (Value.int k)).toArray (ys.map (Value.int k)).toArray is).run P w = .ok (is.all fun i => xs.getD i 0 == ys.getD i 0) w
  | [], _ => by simp [Op.eqItems]
  | i :: is, h => by
    obtain ⟨hx, hy⟩ := h i (by simp)
    have px : (part e (xs.map (Value.int k)).toArray (i * 1)).run P w = .ok (.int k (xs.getD i 0)) w := by
      simp [part, isAgg, run_underlying he, List.getD, List.getElem?_eq_getElem hx]
    have py : (part e (ys.map (Value.int k)).toArray (i * 1)).run P w = .ok (.int k (ys.getD i 0)) w := by
      simp [part, isAgg, run_underlying he, List.getD, List.getElem?_eq_getElem hy]
    have ih := run_eqItems_ints (w := w) he d xs ys is (fun j hj => h j (List.mem_cons_of_mem _ hj))
    simp only [Op.eqItems, Sem.run_bind, px, py, run_equalIn_int w d e k k _ _ he, Result.andThen_ok, List.all_cons]
    cases hb : (xs.getD i 0 == ys.getD i 0)
    · simp
    · simpa using ih
theorem all_range_eqI : ∀ (xs ys : List Int), xs.length = ys.length → ((List.range xs.length).all fun i => xs.getD i 0 == ys.getD i 0) = (xs == ys)
  | [], [], _ => rfl
  | x :: xs, y :: ys, h => by
    have ih := all_range_eqI xs ys (by simpa using h)
    rw [List.length_cons, List.range_succ_eq_map, List.all_cons, List.all_map]
    simp only [List.getD_cons_zero, Function.comp_def, List.getD_cons_succ, ih]
    simp [List.cons_beq_cons]
  | [], _ :: _, h => by simp at h
  | _ :: _, [], h => by simp at h
theorem Yld.eqlArr {T u e m : Nat} {x y : Operand} {k : IntKind} (xs ys : List Int) (ho : o.op = .binOp .eql T x y u) (hx : evl τ x = some (.agg (xs.map (Value.int k)).toArray)) (hy : evl τ y = some (.agg (ys.map (Value.int k)).toArray)) (hg : P.eqGuardType P.depth T = false)
    (ht : P.underlying T = some (.array m e)) (he : P.underlying e = some (.int k)) (hs : (P.info? e).map (·.size) = some 1) (hxl : xs.length = m) (hyl : ys.length = m) : Yld P w0 D n o τ H (.bool (xs == ys)) :=
  ⟨fun a w h hw => by
    obtain ⟨i, hi, hsz⟩ : ∃ i, P.info? e = some i ∧ i.size = 1 := by
      cases hh : P.info? e with
      | none => rw [hh] at hs; cases hs
      | some i => rw [hh] at hs; exact ⟨i, rfl, by simpa using hs⟩
    have hc : P.cellsOf e = 1 := by simp [Program.cellsOf, hi, hsz]
    have h1 := run_eqGuard_agg (P := P) w .eql T x y (xs.map (Value.int k)).toArray (ys.map (Value.int k)).toArray hg
    have h2 := run_eql_struct (P := P) w T (xs.map (Value.int k)).toArray (ys.map (Value.int k)).toArray
    have h3 := run_equalIn_array (P := P) w 9999 (xs.map (Value.int k)).toArray (ys.map (Value.int k)).toArray ht hi
    rw [hc, run_eqItems_ints he 9998 xs ys (List.range m) (fun j hj => by have := List.mem_range.1 hj; omega), ← hxl, all_range_eqI xs ys (by omega)] at h3
    simp only [execOp, ho, h.ev hx, h.ev hy]
    simp [h1, h2, h3]⟩
end
end Go.Proofs.Ythbhjnmkbmmcnaa
