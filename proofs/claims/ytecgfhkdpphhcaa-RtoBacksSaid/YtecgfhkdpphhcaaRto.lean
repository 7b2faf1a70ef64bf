/- What the functions of the package rto compute: one contract a function. -/
import Derived.Test.YtecgfhkdpphhcaaRows
import Derived.Test.YtecgfhkdpphhcaaRtoFn
import Derived.Test.YtecgfhkdpphhcaaKit
namespace Go.Proofs.Ytecgfhkdpphhcaa
open Go.RowKit
open Go.Proofs.Ytecgfhkdpphhcaa.Rto
set_option linter.unusedVariables false

theorem hold_any (x a b : Int) (w : World) :
    Calls Try.prog 25 #[.int .i64 x, .int .i64 a, .int .i64 b] w fun e w' => e = .returned (.int .i64 (cl x a b)) ∧ w = w' := by
  go_enter Try.func25, Try.ntmps25
  go_wp2
  go_ret
  exact ⟨rfl, rfl⟩

theorem new_any (w : World) :
    Calls Try.prog 13 #[] w fun e w' => e = .returned (.agg #[.int .i64 0, .int .i64 0, .int .i64 1000, .int .i64 0, .bool false]) ∧ Below w.heap.size w w' := by
  go_enter Try.func13, Try.ntmps13
  go_wp2
  exact bodyPost_ret (v := .agg #[.int .i64 0, .int .i64 0, .int .i64 1000, .int .i64 0, .bool false]) (by simp [results, Try.results13, go_sem]) rfl ⟨rfl, by (repeat (first | with_reducible exact Below.refl _ _ | with_reducible assumption | with_reducible refine below_drewN ?_ _ | with_reducible refine Below.drew ?_ | with_reducible refine Below.alloc ?_ ?_ _ | with_reducible refine Below.setCell ?_ ?_ _ | with_reducible refine bel_call ?_ (by with_reducible assumption) ?_ | (show (_ : Nat) ≤ _; first | omega | (simp <;> omega))))⟩

theorem wait_any (s v r b : Int) (k : Bool) (w : World) :
    Calls Try.prog 26 #[.agg #[.int .i64 s, .int .i64 v, .int .i64 r, .int .i64 b, .bool k]] w fun e w' => e = .returned (.int .i64 (wt s v)) ∧ Below w.heap.size w w' := by
  have a1 := cl_lo s 0 1048576
  have a2 := cl_hi s 0 1048576 (by omega)
  have b1 := cl_lo v 0 1048576
  have b2 := cl_hi v 0 1048576 (by omega)
  have e1 : IntKind.i64.wrap (4 * cl v 0 1048576) = 4 * cl v 0 1048576 := IntWalk.i64_in _ (by omega)
  have e2 : IntKind.i64.wrap (cl s 0 1048576 + 4 * cl v 0 1048576) = cl s 0 1048576 + 4 * cl v 0 1048576 := IntWalk.i64_in _ (by omega)
  go_enter Try.func26, Try.ntmps26
  go_wp2_with fail
  go_quiet ((go_at_call 25; exact quiet_left' (hold_any _ _ _ _)))
  go_wp2
  go_ret
  exact ⟨rfl, by (repeat (first | with_reducible exact Below.refl _ _ | with_reducible assumption | with_reducible refine below_drewN ?_ _ | with_reducible refine Below.drew ?_ | with_reducible refine Below.alloc ?_ ?_ _ | with_reducible refine Below.setCell ?_ ?_ _ | with_reducible refine bel_call ?_ (by with_reducible assumption) ?_ | (show (_ : Nat) ≤ _; first | omega | (simp <;> omega))))⟩

theorem sample_any (s v r b x : Int) (k : Bool) (w : World) :
    Calls Try.prog 12 #[.agg #[.int .i64 s, .int .i64 v, .int .i64 r, .int .i64 b, .bool k], .int .i64 x] w fun e w' =>
      e = .returned (.agg #[.int .i64 (smS k s x), .int .i64 (smV k s v x), .int .i64 (wt (smS k s x) (smV k s v x)), .int .i64 0, .bool true]) ∧ Below w.heap.size w w' := by
  have a1 := cl_lo s 0 1048576
  have a2 := cl_hi s 0 1048576 (by omega)
  have b1 := cl_lo v 0 1048576
  have b2 := cl_hi v 0 1048576 (by omega)
  have c1 := cl_lo x 0 60000
  have c2 := cl_hi x 0 60000 (by omega)
  cases k
  · go_enter Try.func12, Try.ntmps12
    go_wp2_with fail
    refine (hold_any _ _ _ _).mono ?_
    rintro e w1 ⟨rfl, rfl⟩
    go_wp2_with fail
    refine (wait_any _ _ _ _ _ _).mono ?_
    rintro e w1 ⟨rfl, hb⟩
    obtain ⟨hc, hf⟩ := bblk (w.heap.size + 1) hb (by simp)
    obtain ⟨hc2, hf2⟩ := bblk (w.heap.size + 1 + 1) hb (by simp)
    have hz : w.heap.size + 2 < w1.heap.size := by have := hb.size; simp at this; omega
    go_wp2
    exact bodyPost_ret (v := .agg #[.int .i64 (cl x 0 60000), .int .i64 (cl x 0 60000 / 2), .int .i64 (wt (cl x 0 60000) (cl x 0 60000 / 2)), .int .i64 0, .bool true]) (by simp [results, Try.results12, go_sem, hc]) rfl
      ⟨by simp [smS, smV], by (repeat (first | with_reducible exact Below.refl _ _ | with_reducible assumption | with_reducible refine below_drewN ?_ _ | with_reducible refine Below.drew ?_ | with_reducible refine Below.alloc ?_ ?_ _ | with_reducible refine Below.setCell ?_ ?_ _ | with_reducible refine bel_call ?_ (by with_reducible assumption) ?_ | (show (_ : Nat) ≤ _; first | omega | (simp <;> omega))))⟩
  · go_enter Try.func12, Try.ntmps12
    go_wp2_with fail
    refine (hold_any _ _ _ _).mono ?_
    rintro e w1 ⟨rfl, rfl⟩
    go_wp2_with fail
    go_quiet ((go_at_call 25; exact quiet_left' (hold_any _ _ _ _)))
    go_wp2_with fail
    refine (wait_any _ _ _ _ _ _).mono ?_
    rintro e w1 ⟨rfl, hb⟩
    obtain ⟨hc, hf⟩ := bblk (w.heap.size + 1) hb (by simp)
    obtain ⟨hc2, hf2⟩ := bblk (w.heap.size + 1 + 1) hb (by simp)
    have hz : w.heap.size + 2 < w1.heap.size := by have := hb.size; simp at this; omega
    go_wp2
    exact bodyPost_ret (v := .agg #[.int .i64 ((7 * cl s 0 1048576 + cl x 0 60000) / 8), .int .i64 ((3 * cl v 0 1048576 + max (cl s 0 1048576 - cl x 0 60000) (cl x 0 60000 - cl s 0 1048576)) / 4), .int .i64 (wt ((7 * cl s 0 1048576 + cl x 0 60000) / 8) ((3 * cl v 0 1048576 + max (cl s 0 1048576 - cl x 0 60000) (cl x 0 60000 - cl s 0 1048576)) / 4)), .int .i64 0, .bool true]) (by simp [results, Try.results12, go_sem, hc]) rfl
      ⟨by simp [smS, smV], by (repeat (first | with_reducible exact Below.refl _ _ | with_reducible assumption | with_reducible refine below_drewN ?_ _ | with_reducible refine Below.drew ?_ | with_reducible refine Below.alloc ?_ ?_ _ | with_reducible refine Below.setCell ?_ ?_ _ | with_reducible refine bel_call ?_ (by with_reducible assumption) ?_ | (show (_ : Nat) ≤ _; first | omega | (simp <;> omega))))⟩

theorem back_any (s v r b : Int) (k : Bool) (w : World) (hb : b ≤ 9223372036854775807) (hb0 : -9223372036854775808 ≤ b) :
    Calls Try.prog 14 #[.agg #[.int .i64 s, .int .i64 v, .int .i64 r, .int .i64 b, .bool k]] w fun e w' =>
      e = .returned (.agg #[.int .i64 s, .int .i64 v, .int .i64 (bkR r), .int .i64 (min b 999 + 1), .bool k]) ∧ Below w.heap.size w w' := by
  have c1 := cl_lo r 0 60000
  have c2 := cl_hi r 0 60000 (by omega)
  go_enter Try.func14, Try.ntmps14
  go_wp2_with fail
  refine (hold_any _ _ _ _).mono ?_
  rintro e w1 ⟨rfl, rfl⟩
  go_wp2_with fail
  refine (hold_any _ _ _ _).mono ?_
  rintro e w1 ⟨rfl, rfl⟩
  go_wp2
  exact bodyPost_ret (v := .agg #[.int .i64 s, .int .i64 v, .int .i64 (cl (2 * cl r 0 60000) 1000 60000), .int .i64 (min b 999 + 1), .bool k]) (by simp [results, Try.results14, go_sem]) rfl
    ⟨rfl, by (repeat (first | with_reducible exact Below.refl _ _ | with_reducible assumption | with_reducible refine below_drewN ?_ _ | with_reducible refine Below.drew ?_ | with_reducible refine Below.alloc ?_ ?_ _ | with_reducible refine Below.setCell ?_ ?_ _ | with_reducible refine bel_call ?_ (by with_reducible assumption) ?_ | (show (_ : Nat) ≤ _; first | omega | (simp <;> omega))))⟩

theorem good_any (s v r b : Int) (k : Bool) (w : World) :
    Calls Try.prog 15 #[.agg #[.int .i64 s, .int .i64 v, .int .i64 r, .int .i64 b, .bool k]] w fun e w' =>
      e = .returned (.agg #[.int .i64 s, .int .i64 v, .int .i64 (gdR k s v), .int .i64 0, .bool k]) ∧ Below w.heap.size w w' := by
  cases k
  · go_enter Try.func15, Try.ntmps15
    go_wp2
    exact bodyPost_ret (v := .agg #[.int .i64 s, .int .i64 v, .int .i64 1000, .int .i64 0, .bool false]) (by simp [results, Try.results15, go_sem]) rfl
      ⟨by simp [gdR], by (repeat (first | with_reducible exact Below.refl _ _ | with_reducible assumption | with_reducible refine below_drewN ?_ _ | with_reducible refine Below.drew ?_ | with_reducible refine Below.alloc ?_ ?_ _ | with_reducible refine Below.setCell ?_ ?_ _ | with_reducible refine bel_call ?_ (by with_reducible assumption) ?_ | (show (_ : Nat) ≤ _; first | omega | (simp <;> omega))))⟩
  · go_enter Try.func15, Try.ntmps15
    go_wp2_with fail
    refine (wait_any _ _ _ _ _ _).mono ?_
    rintro e w1 ⟨rfl, hb⟩
    obtain ⟨hc, hf⟩ := bblk w.heap.size hb (by simp; omega)
    obtain ⟨hc1, hf1⟩ := bblk (w.heap.size + 1) hb (by simp)
    have hz : w.heap.size + 1 < w1.heap.size := by have := hb.size; simp at this; omega
    go_wp2
    exact bodyPost_ret (v := .agg #[.int .i64 s, .int .i64 v, .int .i64 (wt s v), .int .i64 0, .bool true]) (by simp [results, Try.results15, go_sem, hc1]) rfl
      ⟨by simp [gdR], by (repeat (first | with_reducible exact Below.refl _ _ | with_reducible assumption | with_reducible refine below_drewN ?_ _ | with_reducible refine Below.drew ?_ | with_reducible refine Below.alloc ?_ ?_ _ | with_reducible refine Below.setCell ?_ ?_ _ | with_reducible refine bel_call ?_ (by with_reducible assumption) ?_ | (show (_ : Nat) ≤ _; first | omega | (simp <;> omega))))⟩

theorem beat_any (s v r b x : Int) (k : Bool) (w : World) :
    Calls Try.prog 16 #[.agg #[.int .i64 s, .int .i64 v, .int .i64 r, .int .i64 b, .bool k], .int .i64 x] w fun e w' =>
      e = .returned (.int .i64 (cl r 0 1048576 + cl x 0 1048576)) ∧ Below w.heap.size w w' := by
  have a1 := cl_lo r 0 1048576
  have a2 := cl_hi r 0 1048576 (by omega)
  have b1 := cl_lo x 0 1048576
  have b2 := cl_hi x 0 1048576 (by omega)
  go_enter Try.func16, Try.ntmps16
  go_wp2_with fail
  refine (hold_any _ _ _ _).mono ?_
  rintro e w1 ⟨rfl, rfl⟩
  go_wp2_with fail
  refine (hold_any _ _ _ _).mono ?_
  rintro e w1 ⟨rfl, rfl⟩
  go_wp2
  go_ret
  exact ⟨rfl, by (repeat (first | with_reducible exact Below.refl _ _ | with_reducible assumption | with_reducible refine below_drewN ?_ _ | with_reducible refine Below.drew ?_ | with_reducible refine Below.alloc ?_ ?_ _ | with_reducible refine Below.setCell ?_ ?_ _ | with_reducible refine bel_call ?_ (by with_reducible assumption) ?_ | (show (_ : Nat) ≤ _; first | omega | (simp <;> omega))))⟩
end Go.Proofs.Ytecgfhkdpphhcaa
