/- With samples that are all the same what is reckoned never goes away from them: the walk of RtoNears, for every three numbers. -/
import Derived.Test.YtecgfhkdpphhcaaRtoShown
namespace Go.Proofs.Ytecgfhkdpphhcaa
open Go.RowKit
open Go.Proofs.Ytecgfhkdpphhcaa.Rto
set_option linter.unusedVariables false

theorem nears_out (f r m : Int) (w : World) (h : r < 0 ∨ (0 ≤ r ∧ 60000 < r) ∨ (0 ≤ r ∧ r ≤ 60000 ∧ f < 0) ∨ (0 ≤ r ∧ r ≤ 60000 ∧ 60000 < f)) :
    Calls Try.prog 3 #[.int .i64 f, .int .i64 r, .int .i64 m] w fun e w' => e = .returned (.bool true) ∧ Below w.heap.size w w' := by
  rcases h with h | ⟨h1, h2⟩ | ⟨h1, h2, h3⟩ | ⟨h1, h2, h3⟩
  all_goals
    go_enter Try.func3, Try.ntmps3
    go_wp2_with fail
    refine (shown_any _).mono ?_
    rintro e w1 ⟨rfl, hb1⟩
    go_wp2_with fail
    go_ret
    exact ⟨rfl, by (repeat (first | with_reducible exact Below.refl _ _ | with_reducible assumption | with_reducible refine below_drewN ?_ _ | with_reducible refine Below.drew ?_ | with_reducible refine Below.alloc ?_ ?_ _ | with_reducible refine Below.setCell ?_ ?_ _ | with_reducible refine bel_call ?_ (by with_reducible assumption) ?_ | (show (_ : Nat) ≤ _; first | omega | (simp <;> omega))))⟩

theorem nears_in (f r m : Int) (w : World) (h1 : 0 ≤ r) (h2 : r ≤ 60000) (h3 : 0 ≤ f) (h4 : f ≤ 60000) (m1 : -9223372036854775808 ≤ m) (m2 : m ≤ 9223372036854775807) :
    Calls Try.prog 3 #[.int .i64 f, .int .i64 r, .int .i64 m] w fun e w' => e = .returned (.bool true) ∧ Below w.heap.size w w' := by
  go_enter Try.func3, Try.ntmps3
  go_wp2_with fail
  refine (shown_any _).mono ?_
  rintro e w1 ⟨rfl, hb1⟩
  have z1 := hb1.size
  go_wp2_with fail
  refine (new_any _).mono ?_
  rintro e w2 ⟨rfl, hb2⟩
  have B2 : Below w.heap.size w w2 := by (repeat (first | with_reducible exact Below.refl _ _ | with_reducible assumption | with_reducible refine below_drewN ?_ _ | with_reducible refine Below.drew ?_ | with_reducible refine Below.alloc ?_ ?_ _ | with_reducible refine Below.setCell ?_ ?_ _ | with_reducible refine bel_call ?_ (by with_reducible assumption) ?_ | (show (_ : Nat) ≤ _; first | omega | (simp <;> omega))))
  have z2 := B2.size
  go_wp2_with fail
  refine (sample_any _ _ _ _ _ _ _).mono ?_
  rintro e w3 ⟨he, hb3⟩
  have B3 : Below w.heap.size w w3 := by (repeat (first | with_reducible exact Below.refl _ _ | with_reducible assumption | with_reducible refine below_drewN ?_ _ | with_reducible refine Below.drew ?_ | with_reducible refine Below.alloc ?_ ?_ _ | with_reducible refine Below.setCell ?_ ?_ _ | with_reducible refine bel_call ?_ (by with_reducible assumption) ?_ | (show (_ : Nat) ≤ _; first | omega | (simp <;> omega))))
  have z3 := B3.size
  have v1 := smV_lo false 0 0 f
  have v2 := smV_hi false 0 0 f
  rw [first_is f 0 h3 h4] at he
  generalize smV false 0 0 f = v at *
  subst he
  go_wp2_with fail
  have s4 := B3.alloc z3 (.cells #[.int .i64 f, .int .i64 v, .int .i64 (wt f v), .int .i64 0, .bool true] 24)
  have t4 := Whole.new w3 24 #[.int .i64 f, .int .i64 v, .int .i64 (wt f v), .int .i64 0, .bool true]
  go_loopw [9] (fun i wr => ∃ (k : Nat) (s v : Int), k ≤ 60 ∧ i = .int .i64 k ∧ 0 ≤ s ∧ s ≤ 60000 ∧ 0 ≤ v ∧ v ≤ 1048576 ∧ min f r ≤ s ∧ s ≤ max f r ∧ Below w.heap.size w wr ∧
      Whole wr w3.heap.size 24 #[.int .i64 s, .int .i64 v, .int .i64 (wt s v), .int .i64 0, .bool true]) (fun i _ => 60 - (intOf i).toNat)
  case atStart => exact ⟨0, f, v, by omega, rfl, h3, h4, v1, v2, by omega, by omega, s4, t4⟩
  case round =>
    clear s4 t4 v1 v2
    obtain ⟨k, s, x, hk, rfl, s1, s2, x1, x2, s3, s4, bw, m3⟩ := hrel
    have zw := bw.size
    obtain ⟨c3, f3⟩ := m3.reads
    have hc : (max m (wrap64 (-m))).tmod 60 < 60 := Int.tmod_lt_of_pos _ (by omega)
    have g1 := wt_ge s x s1 s2
    have l3 := m3.lt
    by_cases hlt : (k : Int) < (max m (wrap64 (-m))).tmod 60
    · have g2 := near s r s1 s2 h1 h2
      have g3 := near_lo s r (min f r) s1 s2 h1 h2 s3 (by omega)
      have g4 := near_hi s r (max f r) s1 s2 h1 h2 s4 (by omega)
      have g5 := smV_lo true s x r
      have g6 := smV_hi true s x r
      go_wp2_with fail
      refine (sample_any _ _ _ _ _ _ _).mono ?_
      rintro e w5 ⟨rfl, hb5⟩
      have n3 := m3.call hb5
      have B5 : Below w.heap.size w w5 := by (repeat (first | with_reducible exact Below.refl _ _ | with_reducible assumption | with_reducible refine below_drewN ?_ _ | with_reducible refine Below.drew ?_ | with_reducible refine Below.alloc ?_ ?_ _ | with_reducible refine Below.setCell ?_ ?_ _ | with_reducible refine bel_call ?_ (by with_reducible assumption) ?_ | (show (_ : Nat) ≤ _; first | omega | (simp <;> omega))))
      have z5 := B5.size
      have l5 := n3.lt
      clear c3 f3
      generalize smS true s r = s' at *
      generalize smV true s x r = x' at *
      obtain ⟨c3, f3⟩ := n3.reads
      go_wp2
      go_roundw
      case rel => exact ⟨k + 1, s', x', by omega, by go_num, by omega, by omega, g5, g6, g3, g4, by (repeat (first | with_reducible exact Below.refl _ _ | with_reducible assumption | with_reducible refine below_drewN ?_ _ | with_reducible refine Below.drew ?_ | with_reducible refine Below.alloc ?_ ?_ _ | with_reducible refine Below.setCell ?_ ?_ _ | with_reducible refine bel_call ?_ (by with_reducible assumption) ?_ | (show (_ : Nat) ≤ _; first | omega | (simp <;> omega)))), (n3.put5 _ _ _ _ _).alloc _⟩
      case measure => simp [intOf]; omega
    · go_wp2
      go_ret
      exact ⟨rfl, by (repeat (first | with_reducible exact Below.refl _ _ | with_reducible assumption | with_reducible refine below_drewN ?_ _ | with_reducible refine Below.drew ?_ | with_reducible refine Below.alloc ?_ ?_ _ | with_reducible refine Below.setCell ?_ ?_ _ | with_reducible refine bel_call ?_ (by with_reducible assumption) ?_ | (show (_ : Nat) ≤ _; first | omega | (simp <;> omega))))⟩
end Go.Proofs.Ytecgfhkdpphhcaa
