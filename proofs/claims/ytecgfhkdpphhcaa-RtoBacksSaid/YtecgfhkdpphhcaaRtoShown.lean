/- The examples of chapter 10 stand: what every statement on timers asks first. -/
import Derived.Test.YtecgfhkdpphhcaaRto
namespace Go.Proofs.Ytecgfhkdpphhcaa
open Go.RowKit
open Go.Proofs.Ytecgfhkdpphhcaa.Rto
set_option linter.unusedVariables false

def bkN : Nat → Int → Int
  | 0, r => r
  | n + 1, r => bkR (bkN n r)

theorem shown_any (w : World) : Calls Try.prog 11 #[] w fun e w' => e = .returned (.bool true) ∧ Below w.heap.size w w' := by
  go_enter Try.func11, Try.ntmps11
  go_wp2_with fail
  refine (new_any _).mono ?_
  rintro e w1 ⟨rfl, hb1⟩
  have z1 := hb1.size
  go_wp2_with fail
  refine (sample_any _ _ _ _ _ _ _).mono ?_
  rintro e w2 ⟨he, hb2⟩
  have B2 : Below w.heap.size w w2 := by (repeat (first | with_reducible exact Below.refl _ _ | with_reducible assumption | with_reducible refine below_drewN ?_ _ | with_reducible refine Below.drew ?_ | with_reducible refine Below.alloc ?_ ?_ _ | with_reducible refine Below.setCell ?_ ?_ _ | with_reducible refine bel_call ?_ (by with_reducible assumption) ?_ | (show (_ : Nat) ≤ _; first | omega | (simp <;> omega))))
  have z2 := B2.size
  rw [show smS false 0 500 = 500 from by decide, show smV false 0 0 500 = 250 from by decide, show wt 500 250 = 1500 from by decide] at he
  subst he
  go_wp2_with fail
  refine (sample_any _ _ _ _ _ _ _).mono ?_
  rintro e w3 ⟨he, hb3⟩
  have B3 : Below w.heap.size w w3 := by (repeat (first | with_reducible exact Below.refl _ _ | with_reducible assumption | with_reducible refine below_drewN ?_ _ | with_reducible refine Below.drew ?_ | with_reducible refine Below.alloc ?_ ?_ _ | with_reducible refine Below.setCell ?_ ?_ _ | with_reducible refine bel_call ?_ (by with_reducible assumption) ?_ | (show (_ : Nat) ≤ _; first | omega | (simp <;> omega))))
  have z3 := B3.size
  rw [show smS true 500 100 = 450 from by decide, show smV true 500 250 100 = 287 from by decide, show wt 450 287 = 1598 from by decide] at he
  subst he
  have k1 := (Whole.new w2 24 #[.int .i64 500, .int .i64 250, .int .i64 1500, .int .i64 0, .bool true]).call hb3
  go_wp2_with fail
  refine (new_any _).mono ?_
  rintro e w4 ⟨rfl, hb4⟩
  have k2 := (k1.alloc _).call hb4
  have k3 := (Whole.new w3 24 #[.int .i64 450, .int .i64 287, .int .i64 1598, .int .i64 0, .bool true]).call hb4
  have B4 : Below w.heap.size w w4 := by (repeat (first | with_reducible exact Below.refl _ _ | with_reducible assumption | with_reducible refine below_drewN ?_ _ | with_reducible refine Below.drew ?_ | with_reducible refine Below.alloc ?_ ?_ _ | with_reducible refine Below.setCell ?_ ?_ _ | with_reducible refine bel_call ?_ (by with_reducible assumption) ?_ | (show (_ : Nat) ≤ _; first | omega | (simp <;> omega))))
  have z4 := B4.size
  have l1 := k2.lt
  have l2 := k3.lt
  clear k1 hb1 hb2 hb3 hb4 B2 B3
  go_wp2
  have s4 := B4.alloc z4 (.cells #[.int .i64 0, .int .i64 0, .int .i64 1000, .int .i64 0, .bool false] 24)
  have t4 := Whole.new w4 24 #[.int .i64 0, .int .i64 0, .int .i64 1000, .int .i64 0, .bool false]
  have r4 := k2.alloc (.cells #[.int .i64 0, .int .i64 0, .int .i64 1000, .int .i64 0, .bool false] 24)
  have q4 := k3.alloc (.cells #[.int .i64 0, .int .i64 0, .int .i64 1000, .int .i64 0, .bool false] 24)
  go_loopw [4] (fun i wr => ∃ k : Nat, k ≤ 6 ∧ i = .int .i64 k ∧ Below w.heap.size w wr ∧ Whole wr w2.heap.size 24 #[.int .i64 500, .int .i64 250, .int .i64 1500, .int .i64 0, .bool true] ∧
      Whole wr w3.heap.size 24 #[.int .i64 450, .int .i64 287, .int .i64 1598, .int .i64 0, .bool true] ∧ Whole wr w4.heap.size 24 #[.int .i64 0, .int .i64 0, .int .i64 (bkN k 1000), .int .i64 k, .bool false]) (fun i _ => 6 - (intOf i).toNat)
  case atStart => exact ⟨0, by omega, rfl, s4, r4, q4, t4⟩
  case round =>
    obtain ⟨k, hk, rfl, bw, m1, m2, m3⟩ := hrel
    clear s4 r4 q4 t4
    have zw := bw.size
    by_cases hlt : k < 6
    · obtain ⟨c3, f3⟩ := m3.reads
      go_wp2_with fail
      refine (back_any _ _ _ _ _ _ (by omega) (by omega)).mono ?_
      rintro e w5 ⟨rfl, hb5⟩
      have n1 := m1.call hb5
      have n2 := m2.call hb5
      have n3 := m3.call hb5
      clear c3 f3
      obtain ⟨c3, f3⟩ := n3.reads
      have B5 : Below w.heap.size w w5 := by (repeat (first | with_reducible exact Below.refl _ _ | with_reducible assumption | with_reducible refine below_drewN ?_ _ | with_reducible refine Below.drew ?_ | with_reducible refine Below.alloc ?_ ?_ _ | with_reducible refine Below.setCell ?_ ?_ _ | with_reducible refine bel_call ?_ (by with_reducible assumption) ?_ | (show (_ : Nat) ≤ _; first | omega | (simp <;> omega))))
      go_wp2
      go_roundw
      case rel =>
        refine ⟨k + 1, by omega, by go_num, by (repeat (first | with_reducible exact Below.refl _ _ | with_reducible assumption | with_reducible refine below_drewN ?_ _ | with_reducible refine Below.drew ?_ | with_reducible refine Below.alloc ?_ ?_ _ | with_reducible refine Below.setCell ?_ ?_ _ | with_reducible refine bel_call ?_ (by with_reducible assumption) ?_ | (show (_ : Nat) ≤ _; first | omega | (simp <;> omega)))), n1.far5 (by omega) _ _ _ _ _, n2.far5 (by omega) _ _ _ _ _, ?_⟩
        have := n3.put5 (.int .i64 0) (.int .i64 0) (.int .i64 (bkN (k + 1) 1000)) (.int .i64 ((k + 1 : Nat) : Int)) (.bool false)
        rw [show min (k : Int) 999 + 1 = ((k + 1 : Nat) : Int) from by omega]
        exact this
      case measure => simp [intOf]; omega
    · obtain rfl : k = 6 := by omega
      obtain ⟨c1, f1⟩ := m1.reads
      obtain ⟨c2, f2⟩ := m2.reads
      obtain ⟨c3, f3⟩ := m3.reads
      have e6 : bkN 6 1000 = 60000 := by decide
      go_wp2
      go_ret
      exact ⟨rfl, by (repeat (first | with_reducible exact Below.refl _ _ | with_reducible assumption | with_reducible refine below_drewN ?_ _ | with_reducible refine Below.drew ?_ | with_reducible refine Below.alloc ?_ ?_ _ | with_reducible refine Below.setCell ?_ ?_ _ | with_reducible refine bel_call ?_ (by with_reducible assumption) ?_ | (show (_ : Nat) ≤ _; first | omega | (simp <;> omega))))⟩
end Go.Proofs.Ytecgfhkdpphhcaa
