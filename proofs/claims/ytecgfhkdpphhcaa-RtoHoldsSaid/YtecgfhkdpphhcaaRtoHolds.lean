/- Whatever a timer sees, it waits 1000 to 60000: the walk of RtoHolds, for every list of numbers. -/
import Derived.Test.YtecgfhkdpphhcaaRtoShown
import Derived.StillTailTactics
namespace Go.Proofs.Ytecgfhkdpphhcaa
open Go.RowKit
open Go.Proofs.Ytecgfhkdpphhcaa.Rto
set_option linter.unusedVariables false

theorem rtoHolds_long (A : Option Addr) (n c : Nat) (w : World) (h : 200 < n) (hm : n ≤ maxLen) :
    Calls Try.prog 5 #[.slice A n c] w fun e w' => e = .returned (.bool true) ∧ Below w.heap.size w w' := by
  unfold maxLen at hm
  go_enter Try.func5, Try.ntmps5
  go_wp2_with fail
  refine (shown_any _).mono ?_
  rintro e w1 ⟨rfl, hb1⟩
  go_wp2_with fail
  go_ret
  exact ⟨rfl, hb1⟩

set_option maxHeartbeats 1000000 in
theorem rtoHolds_short (A : Option Addr) (n c : Nat) (xs : List Int) (w : World) (h : n ≤ 200) (hI : Ints .i64 w w.heap.size A n xs) :
    Calls Try.prog 5 #[.slice A n c] w fun e w' => e = .returned (.bool true) ∧ Below w.heap.size w w' := by
  go_enter Try.func5, Try.ntmps5
  go_wp2_with fail
  refine (shown_any _).mono ?_
  rintro e w1 ⟨rfl, hb1⟩
  have z1 := hb1.size
  go_wp2_with fail
  refine (new_any _).mono ?_
  rintro e w2 ⟨rfl, hb2⟩
  have B2 : Below w.heap.size w w2 := by (repeat (first | with_reducible exact Below.refl _ _ | with_reducible assumption | with_reducible refine below_drewN ?_ _ | with_reducible refine Below.drew ?_ | with_reducible refine Below.alloc ?_ ?_ _ | with_reducible refine Below.setCell ?_ ?_ _ | with_reducible refine bel_call ?_ (by with_reducible assumption) ?_ | (show (_ : Nat) ≤ _; first | omega | (simp <;> omega))))
  have z2 := B2.size
  clear hb1 hb2 z1
  go_wp2_with fail
  have s4 := B2.alloc z2 (.cells #[.int .i64 0, .int .i64 0, .int .i64 1000, .int .i64 0, .bool false] 24)
  have t4 := Whole.new w2 24 #[.int .i64 0, .int .i64 0, .int .i64 1000, .int .i64 0, .bool false]
  go_loopw [5] (fun i wr => ∃ (k : Nat) (s v r b : Int) (q : Bool), k ≤ n ∧ i = .int .i64 k ∧ 1000 ≤ r ∧ r ≤ 60000 ∧ 0 ≤ b ∧ b ≤ 1000 ∧ Below w.heap.size w wr ∧
      Whole wr w2.heap.size 24 #[.int .i64 s, .int .i64 v, .int .i64 r, .int .i64 b, .bool q]) (fun i _ => n - (intOf i).toNat)
  case atStart => exact ⟨0, 0, 0, 1000, 0, false, by omega, rfl, by omega, by omega, by omega, by omega, s4, t4⟩
  case round =>
    clear s4 t4 B2
    obtain ⟨k, s, v, r, b, q, hk, rfl, r1, r2, b1, b2, bw, m3⟩ := hrel
    have zw := bw.size
    have l3 := m3.lt
    obtain ⟨c3, f3⟩ := m3.reads
    by_cases hlt : k < n
    · obtain ⟨bk, off, rfl, hbk, hcell⟩ := hI.at_ (by omega)
      have hx := (bw.cell (p := ⟨bk, off + k, none⟩) hbk).trans (hcell k hlt)
      generalize xs.getD k 0 = x at hx
      clear hcell
      cases h3 : (x.tmod 3 == 0)
      · cases h7 : (x.tmod 7 == 0)
        · have g1 := wt_lo (smS q s x) (smV q s v x)
          have g2 := wt_hi (smS q s x) (smV q s v x)
          go_wp2_with fail
          go_still_tail 5, (by kernel_rfl)
          change wpList _ _ _ _ _ wr.drew
          generalize hwd : wr.drew = wd
          have hbd : Below wr.heap.size wr wd := by rw [← hwd]; (repeat (first | with_reducible exact Below.refl _ _ | with_reducible assumption | with_reducible refine below_drewN ?_ _ | with_reducible refine Below.drew ?_ | with_reducible refine Below.alloc ?_ ?_ _ | with_reducible refine Below.setCell ?_ ?_ _ | with_reducible refine bel_call ?_ (by with_reducible assumption) ?_ | (show (_ : Nat) ≤ _; first | omega | (simp <;> omega))))
          have zd := hbd.size
          clear hwd c3 f3 hx
          have m4 := m3.call hbd
          have B4 : Below w.heap.size w wd := by (repeat (first | with_reducible exact Below.refl _ _ | with_reducible assumption | with_reducible refine below_drewN ?_ _ | with_reducible refine Below.drew ?_ | with_reducible refine Below.alloc ?_ ?_ _ | with_reducible refine Below.setCell ?_ ?_ _ | with_reducible refine bel_call ?_ (by with_reducible assumption) ?_ | (show (_ : Nat) ≤ _; first | omega | (simp <;> omega))))
          clear hbd m3 bw
          go_wp2_with fail
          refine (sample_any _ _ _ _ _ _ _).mono ?_
          rintro e w5 ⟨rfl, hb5⟩
          have n3 := m4.call hb5
          have B5 : Below w.heap.size w w5 := by (repeat (first | with_reducible exact Below.refl _ _ | with_reducible assumption | with_reducible refine below_drewN ?_ _ | with_reducible refine Below.drew ?_ | with_reducible refine Below.alloc ?_ ?_ _ | with_reducible refine Below.setCell ?_ ?_ _ | with_reducible refine bel_call ?_ (by with_reducible assumption) ?_ | (show (_ : Nat) ≤ _; first | omega | (simp <;> omega))))
          have z5 := B5.size
          have l5 := n3.lt
          clear hb5 m4 B4
          obtain ⟨c3, f3⟩ := n3.reads
          generalize wt (smS q s x) (smV q s v x) = r' at *
          generalize smS q s x = s' at *
          generalize smV q s v x = v' at *
          go_wp2
          go_roundw
          case rel => exact ⟨k + 1, s', v', r', 0, true, by omega, by go_num, by omega, by omega, by omega, by omega, by (repeat (first | with_reducible exact Below.refl _ _ | with_reducible assumption | with_reducible refine below_drewN ?_ _ | with_reducible refine Below.drew ?_ | with_reducible refine Below.alloc ?_ ?_ _ | with_reducible refine Below.setCell ?_ ?_ _ | with_reducible refine bel_call ?_ (by with_reducible assumption) ?_ | (show (_ : Nat) ≤ _; first | omega | (simp <;> omega)))), n3.put5 _ _ _ _ _⟩
          case measure => simp [intOf]; omega
        · have g1 := gdR_lo q s v
          have g2 := gdR_hi q s v
          go_wp2_with fail
          refine (good_any _ _ _ _ _ _).mono ?_
          rintro e w5 ⟨rfl, hb5⟩
          have n3 := m3.call hb5
          have B5 : Below w.heap.size w w5 := by (repeat (first | with_reducible exact Below.refl _ _ | with_reducible assumption | with_reducible refine below_drewN ?_ _ | with_reducible refine Below.drew ?_ | with_reducible refine Below.alloc ?_ ?_ _ | with_reducible refine Below.setCell ?_ ?_ _ | with_reducible refine bel_call ?_ (by with_reducible assumption) ?_ | (show (_ : Nat) ≤ _; first | omega | (simp <;> omega))))
          have z5 := B5.size
          have l5 := n3.lt
          clear hb5 m3 bw hx c3 f3
          obtain ⟨c3, f3⟩ := n3.reads
          generalize gdR q s v = r' at *
          go_wp2
          go_roundw
          case rel => exact ⟨k + 1, s, v, r', 0, q, by omega, by go_num, by omega, by omega, by omega, by omega, by (repeat (first | with_reducible exact Below.refl _ _ | with_reducible assumption | with_reducible refine below_drewN ?_ _ | with_reducible refine Below.drew ?_ | with_reducible refine Below.alloc ?_ ?_ _ | with_reducible refine Below.setCell ?_ ?_ _ | with_reducible refine bel_call ?_ (by with_reducible assumption) ?_ | (show (_ : Nat) ≤ _; first | omega | (simp <;> omega)))), n3.put5 _ _ _ _ _⟩
          case measure => simp [intOf]; omega
      · have g1 := bkR_lo r
        have g2 := bkR_hi r
        have g3 := bkR_up r r2
        go_wp2_with fail
        refine (back_any _ _ _ _ _ _ (by omega) (by omega)).mono ?_
        rintro e w5 ⟨rfl, hb5⟩
        have n3 := m3.call hb5
        have B5 : Below w.heap.size w w5 := by (repeat (first | with_reducible exact Below.refl _ _ | with_reducible assumption | with_reducible refine below_drewN ?_ _ | with_reducible refine Below.drew ?_ | with_reducible refine Below.alloc ?_ ?_ _ | with_reducible refine Below.setCell ?_ ?_ _ | with_reducible refine bel_call ?_ (by with_reducible assumption) ?_ | (show (_ : Nat) ≤ _; first | omega | (simp <;> omega))))
        have z5 := B5.size
        have l5 := n3.lt
        clear hb5 m3 bw hx c3 f3
        obtain ⟨c3, f3⟩ := n3.reads
        generalize bkR r = r' at *
        go_wp2
        go_roundw
        case rel => exact ⟨k + 1, s, v, r', min b 999 + 1, q, by omega, by go_num, by omega, by omega, by omega, by omega, by (repeat (first | with_reducible exact Below.refl _ _ | with_reducible assumption | with_reducible refine below_drewN ?_ _ | with_reducible refine Below.drew ?_ | with_reducible refine Below.alloc ?_ ?_ _ | with_reducible refine Below.setCell ?_ ?_ _ | with_reducible refine bel_call ?_ (by with_reducible assumption) ?_ | (show (_ : Nat) ≤ _; first | omega | (simp <;> omega)))), n3.put5 _ _ _ _ _⟩
        case measure => simp [intOf]; omega
    · have g6 : Hid (bkN 6 r = 60000) := six r r1 r2
      clear c3 f3 hI
      go_wp2
      go_loopw [7] (fun i wx => ∃ (j : Nat) (b' : Int), j ≤ 6 ∧ i = .int .i64 j ∧ 0 ≤ b' ∧ b' ≤ 1000 ∧ Below w.heap.size w wx ∧
          Whole wx w2.heap.size 24 #[.int .i64 s, .int .i64 v, .int .i64 (bkN j r), .int .i64 b', .bool q]) (fun i _ => 6 - (intOf i).toNat)
      case atStart => exact ⟨0, b, by omega, rfl, b1, b2, bw, m3⟩
      case round =>
        clear bw m3 zw l3 b1 b2
        obtain ⟨j, b', hj, rfl, b1, b2, bw, m3⟩ := hrel
        rename_i wx _ _ _ _ _ _
        have zw := bw.size
        have l3 := m3.lt
        obtain ⟨c3, f3⟩ := m3.reads
        by_cases hl6 : j < 6
        · go_wp2_with fail
          refine (back_any _ _ _ _ _ _ (by omega) (by omega)).mono ?_
          rintro e w5 ⟨rfl, hb5⟩
          have n3 := m3.call hb5
          have B5 : Below w.heap.size w w5 := by (repeat (first | with_reducible exact Below.refl _ _ | with_reducible assumption | with_reducible refine below_drewN ?_ _ | with_reducible refine Below.drew ?_ | with_reducible refine Below.alloc ?_ ?_ _ | with_reducible refine Below.setCell ?_ ?_ _ | with_reducible refine bel_call ?_ (by with_reducible assumption) ?_ | (show (_ : Nat) ≤ _; first | omega | (simp <;> omega))))
          have z5 := B5.size
          have l5 := n3.lt
          clear hb5 m3 bw c3 f3
          obtain ⟨c3, f3⟩ := n3.reads
          go_wp2
          go_roundw
          case rel => exact ⟨j + 1, min b' 999 + 1, by omega, by go_num, by omega, by omega, by (repeat (first | with_reducible exact Below.refl _ _ | with_reducible assumption | with_reducible refine below_drewN ?_ _ | with_reducible refine Below.drew ?_ | with_reducible refine Below.alloc ?_ ?_ _ | with_reducible refine Below.setCell ?_ ?_ _ | with_reducible refine bel_call ?_ (by with_reducible assumption) ?_ | (show (_ : Nat) ≤ _; first | omega | (simp <;> omega)))), n3.put5 _ _ _ _ _⟩
          case measure => simp [intOf]; omega
        · obtain rfl : j = 6 := by omega
          rw [g6.out] at c3
          go_wp2
          go_ret
          exact ⟨rfl, bw⟩
theorem rtoHolds_walk (A : Option Addr) (n c : Nat) (zs : List Int) (w : World) (h : IsRow .i64 w A n c zs) :
    Calls Try.prog 5 #[.slice A n c] w fun e w' => e = .returned (.bool true) ∧ Below w.heap.size w w' := by
  have hI := h.ints
  by_cases hn : n ≤ 200
  · exact rtoHolds_short A n c _ w hn hI
  · exact rtoHolds_long A n c w (by omega) hI.most
end Go.Proofs.Ytecgfhkdpphhcaa

