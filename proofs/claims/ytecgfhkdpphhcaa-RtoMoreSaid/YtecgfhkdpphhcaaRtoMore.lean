/- An answer that takes longer never makes what is reckoned less: the walk of RtoMore, for every timer and every two numbers. -/
import Derived.Test.YtecgfhkdpphhcaaRtoShown
namespace Go.Proofs.Ytecgfhkdpphhcaa
open Go.RowKit
open Go.Proofs.Ytecgfhkdpphhcaa.Rto
set_option linter.unusedVariables false

theorem rtoMore_walk (s v r b : Int) (k : Bool) (x y : Int) (w : World) (w0 : (Lit.int .i64 s).wf = true) (w1 : (Lit.int .i64 v).wf = true) (w2 : (Lit.int .i64 r).wf = true) (w3 : (Lit.int .i64 b).wf = true) (w4 : (Lit.int .i64 x).wf = true) (w5 : (Lit.int .i64 y).wf = true) :
    Calls Try.prog 4 #[.agg #[.int .i64 s, .int .i64 v, .int .i64 r, .int .i64 b, .bool k], .int .i64 x, .int .i64 y] w fun e w' => e = .returned (.bool true) ∧ Below w.heap.size w w' := by
  clear w0 w1 w2 w3 w4 w5
  have t0 := Whole.new w 24 #[.int .i64 s, .int .i64 v, .int .i64 r, .int .i64 b, .bool k]
  have B0 : Below w.heap.size w (w.alloc (.cells #[.int .i64 s, .int .i64 v, .int .i64 r, .int .i64 b, .bool k] 24)) := by (repeat (first | with_reducible exact Below.refl _ _ | with_reducible assumption | with_reducible refine below_drewN ?_ _ | with_reducible refine Below.drew ?_ | with_reducible refine Below.alloc ?_ ?_ _ | with_reducible refine Below.setCell ?_ ?_ _ | with_reducible refine bel_call ?_ (by with_reducible assumption) ?_ | (show (_ : Nat) ≤ _; first | omega | (simp <;> omega))))
  have z0 := B0.size
  cases k
  · go_enter Try.func4, Try.ntmps4
    go_wp2_with fail
    refine (shown_any _).mono ?_
    rintro e w1 ⟨rfl, hb1⟩
    have t1 := t0.call hb1
    have B1 : Below w.heap.size w w1 := by (repeat (first | with_reducible exact Below.refl _ _ | with_reducible assumption | with_reducible refine below_drewN ?_ _ | with_reducible refine Below.drew ?_ | with_reducible refine Below.alloc ?_ ?_ _ | with_reducible refine Below.setCell ?_ ?_ _ | with_reducible refine bel_call ?_ (by with_reducible assumption) ?_ | (show (_ : Nat) ≤ _; first | omega | (simp <;> omega))))
    obtain ⟨c1, f1⟩ := t1.reads
    go_wp2
    go_ret
    exact ⟨rfl, B1⟩
  · go_enter Try.func4, Try.ntmps4
    go_wp2_with fail
    refine (shown_any _).mono ?_
    rintro e w1 ⟨rfl, hb1⟩
    have t1 := t0.call hb1
    have B1 : Below w.heap.size w w1 := by (repeat (first | with_reducible exact Below.refl _ _ | with_reducible assumption | with_reducible refine below_drewN ?_ _ | with_reducible refine Below.drew ?_ | with_reducible refine Below.alloc ?_ ?_ _ | with_reducible refine Below.setCell ?_ ?_ _ | with_reducible refine bel_call ?_ (by with_reducible assumption) ?_ | (show (_ : Nat) ≤ _; first | omega | (simp <;> omega))))
    have z1 := B1.size
    clear hb1 t0 B0 z0
    obtain ⟨c1, f1⟩ := t1.reads
    go_wp2_with fail
    refine (sample_any _ _ _ _ _ _ _).mono ?_
    rintro e w2 ⟨rfl, hb2⟩
    have t2 := t1.call hb2
    have B2 : Below w.heap.size w w2 := by (repeat (first | with_reducible exact Below.refl _ _ | with_reducible assumption | with_reducible refine below_drewN ?_ _ | with_reducible refine Below.drew ?_ | with_reducible refine Below.alloc ?_ ?_ _ | with_reducible refine Below.setCell ?_ ?_ _ | with_reducible refine bel_call ?_ (by with_reducible assumption) ?_ | (show (_ : Nat) ≤ _; first | omega | (simp <;> omega))))
    have z2 := B2.size
    have l2 := t2.lt
    clear c1 f1 t1 hb2 B1
    obtain ⟨c2, f2⟩ := t2.reads
    have g1 := more s x y
    have g2 := smS_lo true s (min x y)
    have g3 := smV_lo true s v (min x y)
    have g4 := wt_lo (smS true s (min x y)) (smV true s v (min x y))
    have g5 := wt_hi (smS true s (max x y)) (smV true s v (max x y))
    generalize wt (smS true s (min x y)) (smV true s v (min x y)) = r1 at *
    generalize smS true s (min x y) = s1 at *
    generalize smV true s v (min x y) = v1 at *
    have u2 := Whole.new w2 24 #[.int .i64 s1, .int .i64 v1, .int .i64 r1, .int .i64 0, .bool true]
    go_wp2_with fail
    refine (sample_any _ _ _ _ _ _ _).mono ?_
    rintro e w3 ⟨rfl, hb3⟩
    have u3 := u2.call hb3
    have B3 : Below w.heap.size w w3 := by (repeat (first | with_reducible exact Below.refl _ _ | with_reducible assumption | with_reducible refine below_drewN ?_ _ | with_reducible refine Below.drew ?_ | with_reducible refine Below.alloc ?_ ?_ _ | with_reducible refine Below.setCell ?_ ?_ _ | with_reducible refine bel_call ?_ (by with_reducible assumption) ?_ | (show (_ : Nat) ≤ _; first | omega | (simp <;> omega))))
    have z3 := B3.size
    have l3 := u3.lt
    clear c2 f2 t2 u2 hb3 B2
    obtain ⟨c3, f3⟩ := u3.reads
    generalize wt (smS true s (max x y)) (smV true s v (max x y)) = r2 at *
    generalize smS true s (max x y) = s2 at *
    generalize smV true s v (max x y) = v2 at *
    go_wp2
    go_ret
    exact ⟨rfl, by (repeat (first | with_reducible exact Below.refl _ _ | with_reducible assumption | with_reducible refine below_drewN ?_ _ | with_reducible refine Below.drew ?_ | with_reducible refine Below.alloc ?_ ?_ _ | with_reducible refine Below.setCell ?_ ?_ _ | with_reducible refine bel_call ?_ (by with_reducible assumption) ?_ | (show (_ : Nat) ≤ _; first | omega | (simp <;> omega))))⟩
end Go.Proofs.Ytecgfhkdpphhcaa
