/- Waiting in vain n times doubles the time n times, as far as the bounds let it: the walk of RtoBacks, for every two numbers. -/
import Derived.Test.YtecgfhkdpphhcaaRtoShown
import Derived.Deep.RegionHeld3
namespace Go.Proofs.Ytecgfhkdpphhcaa
open Go.RowKit
open Go.Proofs.Ytecgfhkdpphhcaa.Rto
set_option linter.unusedVariables false

theorem backs_out (r m : Int) (w : World) (h : r < 0 ∨ (0 ≤ r ∧ 60000 < r) ∨ (0 ≤ r ∧ r ≤ 60000 ∧ m < 0) ∨ (0 ≤ r ∧ r ≤ 60000 ∧ 20 < m)) :
    Calls Try.prog 6 #[.int .i64 r, .int .i64 m] w fun e w' => e = .returned (.bool true) ∧ Below w.heap.size w w' := by
  rcases h with h | ⟨h1, h2⟩ | ⟨h1, h2, h3⟩ | ⟨h1, h2, h3⟩
  all_goals
    go_enter Try.func6, Try.ntmps6
    go_wp2_with fail
    refine (shown_any _).mono ?_
    rintro e w1 ⟨rfl, hb1⟩
    go_wp2_with fail
    go_ret
    exact ⟨rfl, by (repeat (first | with_reducible exact Below.refl _ _ | with_reducible assumption | with_reducible refine below_drewN ?_ _ | with_reducible refine Below.drew ?_ | with_reducible refine Below.alloc ?_ ?_ _ | with_reducible refine Below.setCell ?_ ?_ _ | with_reducible refine bel_call ?_ (by with_reducible assumption) ?_ | (show (_ : Nat) ≤ _; first | omega | (simp <;> omega))))⟩

theorem wt_first (r : Int) (h1 : 0 ≤ r) (h2 : r ≤ 60000) : wt (smS false 0 r) (smV false 0 0 r) = bkN 0 (wt r (smV false 0 0 r)) := by rw [first_is r 0 h1 h2]; rfl
theorem bkN_lo (n : Nat) (r : Int) (h : 1000 ≤ r) : 1000 ≤ bkN n r := by cases n with
  | zero => exact h
  | succ n => exact bkR_lo _
theorem bkN_hi (n : Nat) (r : Int) (h : r ≤ 60000) : bkN n r ≤ 60000 := by cases n with
  | zero => exact h
  | succ n => exact bkR_hi _
theorem bkN_step (n : Nat) (r : Int) (h : 1000 ≤ r) (h' : r ≤ 60000) : min (2 * bkN n r) 60000 = bkR (bkN n r) := (bkR_eq _ (bkN_lo n r h) (bkN_hi n r h')).symm

set_option maxHeartbeats 1000000 in
theorem backs_in (r : Int) (m : Nat) (w : World) (h1 : 0 ≤ r) (h2 : r ≤ 60000) (h3 : m ≤ 20) :
    Calls Try.prog 6 #[.int .i64 r, .int .i64 m] w fun e w' => e = .returned (.bool true) ∧ Below w.heap.size w w' := by
  go_enter Try.func6, Try.ntmps6
  go_wp2_with fail
  refine (shown_any _).mono ?_
  rintro e w1 ⟨rfl, hb1⟩
  have z1 := hb1.size
  go_wp2_with fail
  refine (new_any _).mono ?_
  rintro e w2 ⟨rfl, hb2⟩
  have B2 : Below w.heap.size w w2 := by (repeat (first | with_reducible exact Below.refl _ _ | with_reducible assumption | with_reducible refine below_drewN ?_ _ | with_reducible refine Below.drew ?_ | with_reducible refine Below.alloc ?_ ?_ _ | with_reducible refine Below.setCell ?_ ?_ _ | with_reducible refine bel_call ?_ (by with_reducible assumption) ?_ | (show (_ : Nat) ≤ _; first | omega | (simp <;> omega))))
  have z2 := B2.size
  go_wp2_with fail
  refine (sample_any _ _ _ _ _ _ _).mono ?_
  rintro e w3 ⟨he, hb3⟩
  have B3 : Below w.heap.size w w3 := by (repeat (first | with_reducible exact Below.refl _ _ | with_reducible assumption | with_reducible refine below_drewN ?_ _ | with_reducible refine Below.drew ?_ | with_reducible refine Below.alloc ?_ ?_ _ | with_reducible refine Below.setCell ?_ ?_ _ | with_reducible refine bel_call ?_ (by with_reducible assumption) ?_ | (show (_ : Nat) ≤ _; first | omega | (simp <;> omega))))
  have z3 := B3.size
  rw [first_is r 0 h1 h2] at he
  generalize smV false 0 0 r = v at *
  have g1 := wt_lo r v
  have g2 := wt_hi r v
  subst he
  clear hb1 hb2 hb3 B2 z1 z2
  go_wp2_with fail
  have s4 := (B3.alloc z3 (.cells #[.int .i64 r, .int .i64 v, .int .i64 (wt r v), .int .i64 0, .bool true] 24)).alloc (by simp; omega) (.cells #[.int .i64 r, .int .i64 v, .int .i64 (wt r v), .int .i64 0, .bool true] 24)
  have t4 := (Whole.new w3 24 #[.int .i64 r, .int .i64 v, .int .i64 (wt r v), .int .i64 0, .bool true]).alloc (.cells #[.int .i64 r, .int .i64 v, .int .i64 (wt r v), .int .i64 0, .bool true] 24)
  have y4 := Whole.new (w3.alloc (.cells #[.int .i64 r, .int .i64 v, .int .i64 (wt r v), .int .i64 0, .bool true] 24)) 24 #[.int .i64 r, .int .i64 v, .int .i64 (wt r v), .int .i64 0, .bool true]
  rw [World.size_alloc] at y4
  generalize hR : wt r v = R at *
  go_loopw [8, 9] (fun q i wr => ∃ j : Nat, j ≤ m ∧ i = .int .i64 j ∧ q = .int .i64 (bkN j R) ∧ Below w.heap.size w wr ∧
      Whole wr w3.heap.size 24 #[.int .i64 r, .int .i64 v, .int .i64 R, .int .i64 0, .bool true] ∧
      Whole wr (w3.heap.size + 1) 24 #[.int .i64 r, .int .i64 v, .int .i64 (bkN j R), .int .i64 j, .bool true]) (fun _ i _ => m - (intOf i).toNat)
  case atStart => exact ⟨0, by omega, rfl, rfl, s4, t4, y4⟩
  case round =>
    clear s4 t4 y4 B3
    obtain ⟨j, hj, rfl, rfl, bw, m2, m3⟩ := hrel
    have zw := bw.size
    have l2 := m2.lt
    have l3 := m3.lt
    obtain ⟨c2, f2⟩ := m2.reads
    obtain ⟨c3, f3⟩ := m3.reads
    have q1 := bkN_lo j R g1
    have q2 := bkN_hi j R g2
    by_cases hlt : j < m
    · have e1 := bkN_step j R g1 g2
      have e2 : min (j : Int) 999 = j := by omega
      go_wp2_with fail
      refine (back_any _ _ _ _ _ _ (by omega) (by omega)).mono ?_
      rintro e w5 ⟨rfl, hb5⟩
      have n2 := m2.call hb5
      have n3 := m3.call hb5
      have B5 : Below w.heap.size w w5 := by (repeat (first | with_reducible exact Below.refl _ _ | with_reducible assumption | with_reducible refine below_drewN ?_ _ | with_reducible refine Below.drew ?_ | with_reducible refine Below.alloc ?_ ?_ _ | with_reducible refine Below.setCell ?_ ?_ _ | with_reducible refine bel_call ?_ (by with_reducible assumption) ?_ | (show (_ : Nat) ≤ _; first | omega | (simp <;> omega))))
      have z5 := B5.size
      have l4 := n2.lt
      have l5 := n3.lt
      clear hb5 m2 m3 bw c2 f2 c3 f3
      obtain ⟨c2, f2⟩ := n2.reads
      obtain ⟨c3, f3⟩ := n3.reads
      go_wp2
      go_roundw
      case rel => exact ⟨j + 1, by omega, by go_num, rfl, by (repeat (first | with_reducible exact Below.refl _ _ | with_reducible assumption | with_reducible refine below_drewN ?_ _ | with_reducible refine Below.drew ?_ | with_reducible refine Below.alloc ?_ ?_ _ | with_reducible refine Below.setCell ?_ ?_ _ | with_reducible refine bel_call ?_ (by with_reducible assumption) ?_ | (show (_ : Nat) ≤ _; first | omega | (simp <;> omega)))), n2.far5 (by omega) _ _ _ _ _, n3.put5 _ _ _ _ _⟩
      case measure => simp [intOf]; omega
    · obtain rfl : j = m := by omega
      have e1 : gdR true r v = R := by simp [gdR, hR]
      have e2 : cl (bkN j R) 0 1048576 + cl 30000 0 1048576 = bkN j R + 30000 := by unfold cl; omega
      have G := fun W => good_any r v (bkN j R) j true W
      have T := fun W => beat_any r v (bkN j R) j 30000 true W
      rw [e1] at G
      rw [e2] at T
      have HG := Lib.hid G
      have HT := Lib.hid T
      clear G T e1 e2 hR f2 f3
      have ew : IntKind.i64.wrap (bkN j R + 30000) = bkN j R + 30000 := IntWalk.i64_in _ (by omega)
      go_wp2_with fail
      go_region_held3 (fun w' => (w3.heap.size + 1 < w'.heap.size ∧ (∀ o, w'.cell? ⟨w3.heap.size, o, none⟩ = #[Value.int .i64 r, .int .i64 v, .int .i64 R, .int .i64 0, .bool true][o]?) ∧
          (∀ o, w'.cell? ⟨w3.heap.size + 1, o, none⟩ = #[Value.int .i64 r, .int .i64 v, .int .i64 (bkN j R), .int .i64 j, .bool true][o]?)))
        (first | go_keep | assumption)
        ((first
          | (go_simp; go_at_call 15; refine (HG.out _).mono ?_; rintro e w5 ⟨rfl, hb5⟩
             have S5 : w3.heap.size + 1 < w5.heap.size ∧ (∀ o, w5.cell? ⟨w3.heap.size, o, none⟩ = #[Value.int .i64 r, .int .i64 v, .int .i64 R, .int .i64 0, .bool true][o]?) ∧
                 (∀ o, w5.cell? ⟨w3.heap.size + 1, o, none⟩ = #[Value.int .i64 r, .int .i64 v, .int .i64 (bkN j R), .int .i64 j, .bool true][o]?) :=
               ⟨Nat.lt_of_lt_of_le l3 hb5.size, fun o => (hb5.cell (p := ⟨_, o, none⟩) l2).trans (c2 o), fun o => (hb5.cell (p := ⟨_, o, none⟩) l3).trans (c3 o)⟩
             have B5 : Below w.heap.size w w5 := bel_call bw.drew hb5 zw
             have z5 := B5.size)
          | (go_simp; go_at_call 16; refine (HT.out _).mono ?_; rintro e w6 ⟨rfl, hb6⟩
             have B6 : Below w.heap.size w w6 := bel_call B5 hb6 z5
             have S6 : w3.heap.size + 1 < w6.heap.size ∧ (∀ o, w6.cell? ⟨w3.heap.size, o, none⟩ = #[Value.int .i64 r, .int .i64 v, .int .i64 R, .int .i64 0, .bool true][o]?) ∧
                 (∀ o, w6.cell? ⟨w3.heap.size + 1, o, none⟩ = #[Value.int .i64 r, .int .i64 v, .int .i64 (bkN j R), .int .i64 j, .bool true][o]?) :=
               ⟨Nat.lt_of_lt_of_le S5.1 hb6.size, fun o => (hb6.cell (p := ⟨_, o, none⟩) (Nat.lt_of_succ_lt S5.1)).trans (S5.2.1 o), fun o => (hb6.cell (p := ⟨_, o, none⟩) S5.1).trans (S5.2.2 o)⟩)))
      clear ew
      go_wp2
      go_ret
      exact ⟨ret_bool (by simp), B6⟩

theorem rtoBacks_walk (r m : Int) (w : World) (w0 : (Lit.int .i64 r).wf = true) (w1 : (Lit.int .i64 m).wf = true) :
    Calls Try.prog 6 #[.int .i64 r, .int .i64 m] w fun e w' => e = .returned (.bool true) ∧ Below w.heap.size w w' := by
  by_cases h : 0 ≤ r ∧ r ≤ 60000 ∧ 0 ≤ m ∧ m ≤ 20
  · obtain ⟨h1, h2, h3, h4⟩ := h
    obtain ⟨m', rfl⟩ := Int.eq_ofNat_of_zero_le h3
    exact backs_in r m' w h1 h2 (by omega)
  · exact backs_out r m w (by omega)
end Go.Proofs.Ytecgfhkdpphhcaa
