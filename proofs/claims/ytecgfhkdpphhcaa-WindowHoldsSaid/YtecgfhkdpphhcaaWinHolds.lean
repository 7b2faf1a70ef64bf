/- Whatever comes, or is lost, a window is never below 1500: the walk of WindowHolds, for every list of numbers. -/
import Derived.Test.YtecgfhkdpphhcaaWinGrows
import Derived.StillTailTactics
namespace Go.Proofs.Ytecgfhkdpphhcaa
open Go.RowKit
open Go.Proofs.Ytecgfhkdpphhcaa.Win
set_option linter.unusedVariables false

theorem windowHolds_long (A : Option Addr) (n c : Nat) (w : World) (h : 200 < n) (hm : n ≤ maxLen) :
    Calls Try.prog 9 #[.slice A n c] w fun e w' => e = .returned (.bool true) ∧ Below w.heap.size w w' := by
  unfold maxLen at hm
  go_enter Try.func9, Try.ntmps9
  go_wp2_with fail
  refine (wshown_any _).mono ?_
  rintro e w1 ⟨rfl, hb1⟩
  go_wp2_with fail
  go_ret
  exact ⟨rfl, hb1⟩

/-- What a window that stands within bounds is behind bytes that came. -/
theorem ak_holds (c s p x : Int) (h1 : 1500 ≤ c) (h2 : c ≤ 1073741824) (h3 : 0 ≤ s) (h4 : s ≤ 1073741824) (h5 : 0 ≤ p) (h6 : p ≤ 1073741824) :
    c ≤ wh (akC (wh c 1500) (wh s 0) (wh p 0) (wh x 0) (wh c 0) true) 1500 ∧ wh (akC (wh c 1500) (wh s 0) (wh p 0) (wh x 0) (wh c 0) true) 1500 ≤ c + 1500 ∧
      wh (akC (wh c 1500) (wh s 0) (wh p 0) (wh x 0) (wh c 0) true) 1500 ≤ 1073741824 := by
  rw [wh_id c 1500 (by omega) (by omega), wh_id s 0 (by omega) (by omega), wh_id p 0 (by omega) (by omega), wh_id c 0 (by omega) (by omega)]
  have a := wh_lo x 0
  have b := wh_hi x 0 (by omega)
  rw [akC_t]
  unfold wh at *
  (repeat' split) <;> omega

theorem wh_bd (n : Int) : 0 ≤ wh n 0 ∧ wh n 0 ≤ 1073741824 := ⟨wh_lo n 0, wh_hi n 0 (by omega)⟩

set_option maxRecDepth 100000 in
set_option maxHeartbeats 2000000 in
theorem windowHolds_short (A : Option Addr) (n cp : Nat) (xs : List Int) (w : World) (h : n ≤ 200) (hI : Ints .i64 w w.heap.size A n xs) :
    Calls Try.prog 9 #[.slice A n cp] w fun e w' => e = .returned (.bool true) ∧ Below w.heap.size w w' := by
  have G1 := fun W => wnew_any 60000 W
  rw [show wh 60000 0 = 60000 from by decide] at G1
  have H1 := Lib.hid G1
  clear G1
  go_enter Try.func9, Try.ntmps9
  go_wp2_with fail
  refine (wshown_any _).mono ?_
  rintro e w1 ⟨rfl, hb1⟩
  have z1 := hb1.size
  go_wp2_with fail
  refine (H1.out _).mono ?_
  rintro e w2 ⟨rfl, hb2⟩
  have B2 : Below w.heap.size w w2 := by (repeat (first | with_reducible exact Below.refl _ _ | with_reducible assumption | with_reducible refine below_drewN ?_ _ | with_reducible refine Below.drew ?_ | with_reducible refine Below.alloc ?_ ?_ _ | with_reducible refine Below.setCell ?_ ?_ _ | with_reducible refine bel_call ?_ (by with_reducible assumption) ?_ | (show (_ : Nat) ≤ _; first | omega | (simp <;> omega))))
  have z2 := B2.size
  clear hb1 hb2 z1 H1
  go_wp2_with fail
  have s4 := B2.alloc z2 (.cells #[.int .i64 4500, .int .i64 60000, .int .i64 0] 35)
  have t4 := Whole.new w2 35 #[.int .i64 4500, .int .i64 60000, .int .i64 0]
  go_loopw [5] (fun i wr => ∃ (k : Nat) (c s p : Int), k ≤ n ∧ i = .int .i64 k ∧ 1500 ≤ c ∧ c ≤ 1073741824 ∧ 0 ≤ s ∧ s ≤ 1073741824 ∧ 0 ≤ p ∧ p ≤ 1073741824 ∧ Below w.heap.size w wr ∧
      Whole wr w2.heap.size 35 #[.int .i64 c, .int .i64 s, .int .i64 p]) (fun i _ => n - (intOf i).toNat)
  case atStart => exact ⟨0, 4500, 60000, 0, by omega, rfl, by omega, by omega, by omega, by omega, by omega, by omega, s4, t4⟩
  case round =>
    clear s4 t4 B2
    obtain ⟨k, c, s, p, hk, rfl, c1, c2, s1, s2, p1, p2, bw, m3⟩ := hrel
    have zw := bw.size
    have l3 := m3.lt
    obtain ⟨c3, f3⟩ := m3.reads
    by_cases hlt : k < n
    · obtain ⟨bk, off, rfl, hbk, hcell⟩ := hI.at_ (by omega)
      have hx := (bw.cell (p := ⟨bk, off + k, none⟩) hbk).trans (hcell k hlt)
      generalize xs.getD k 0 = x at hx
      clear hcell hI
      cases h0 : (x.tmod 5 == 0)
      · cases h1 : (x.tmod 5 == 1)
        · cases h2 : (x.tmod 5 == 2)
          · have ⟨g1, g2, g3⟩ := ak_holds c s p x c1 c2 s1 s2 p1 p2
            have ⟨g4, g5⟩ := wh_bd s
            have ⟨g6, g7⟩ := wh_bd (akP (wh c 1500) (wh s 0) (wh p 0) (wh x 0) (wh c 0) true)
            go_wp2_with fail
            go_still_tail 6, (by kernel_rfl)
            change wpList _ _ _ _ _ wr.drew
            generalize hwd : wr.drew = wd
            have hbd : Below wr.heap.size wr wd := by rw [← hwd]; (repeat (first | with_reducible exact Below.refl _ _ | with_reducible assumption | with_reducible refine below_drewN ?_ _ | with_reducible refine Below.drew ?_ | with_reducible refine Below.alloc ?_ ?_ _ | with_reducible refine Below.setCell ?_ ?_ _ | with_reducible refine bel_call ?_ (by with_reducible assumption) ?_ | (show (_ : Nat) ≤ _; first | omega | (simp <;> omega))))
            have zd := hbd.size
            clear hwd c3 f3 hx
            have m4 := m3.call hbd
            have B4 : Below w.heap.size w wd := by (repeat (first | with_reducible exact Below.refl _ _ | with_reducible assumption | with_reducible refine below_drewN ?_ _ | with_reducible refine Below.drew ?_ | with_reducible refine Below.alloc ?_ ?_ _ | with_reducible refine Below.setCell ?_ ?_ _ | with_reducible refine bel_call ?_ (by with_reducible assumption) ?_ | (show (_ : Nat) ≤ _; first | omega | (simp <;> omega))))
            clear hbd m3 bw
            go_wp2_with fail
            refine (acked_any _ _ _ _ _ _ _).mono ?_
            rintro e w5 ⟨rfl, hb5⟩
            have n3 := m4.call hb5
            have B5 : Below w.heap.size w w5 := by (repeat (first | with_reducible exact Below.refl _ _ | with_reducible assumption | with_reducible refine below_drewN ?_ _ | with_reducible refine Below.drew ?_ | with_reducible refine Below.alloc ?_ ?_ _ | with_reducible refine Below.setCell ?_ ?_ _ | with_reducible refine bel_call ?_ (by with_reducible assumption) ?_ | (show (_ : Nat) ≤ _; first | omega | (simp <;> omega))))
            have z5 := B5.size
            have l5 := n3.lt
            clear hb5 m4 B4
            generalize wh (akC (wh c 1500) (wh s 0) (wh p 0) (wh x 0) (wh c 0) true) 1500 = c' at *
            generalize wh (akP (wh c 1500) (wh s 0) (wh p 0) (wh x 0) (wh c 0) true) 0 = p' at *
            generalize wh s 0 = s' at *
            have n4 := n3.put3 (.int .i64 c') (.int .i64 s') (.int .i64 p')
            obtain ⟨c3, f3⟩ := n3.reads
            go_wp2_with fail
            refine (may_yes _ _ _ _ _ (wh_zero _)).mono ?_
            rintro e w6 ⟨rfl, hb6⟩
            have n5 := n4.call hb6
            have B6 : Below w.heap.size w w6 := by (repeat (first | with_reducible exact Below.refl _ _ | with_reducible assumption | with_reducible refine below_drewN ?_ _ | with_reducible refine Below.drew ?_ | with_reducible refine Below.alloc ?_ ?_ _ | with_reducible refine Below.setCell ?_ ?_ _ | with_reducible refine bel_call ?_ (by with_reducible assumption) ?_ | (show (_ : Nat) ≤ _; first | omega | (simp <;> omega))))
            have l6 := n5.lt
            clear c3 f3 n3 n4 hb6 B5
            obtain ⟨c3, f3⟩ := n5.reads
            go_wp2
            go_roundw
            case rel => exact ⟨k + 1, c', s', p', by omega, by go_num, by omega, by omega, by omega, by omega, by omega, by omega, B6, n5⟩
            case measure => simp [intOf]; omega
          · have ⟨g4, g5⟩ := wh_bd s
            have ⟨g6, g7⟩ := wh_bd p
            have g1 : 1500 ≤ min (wh c 1500) (half (wh c 1500)) ∧ min (wh c 1500) (half (wh c 1500)) ≤ c := by unfold half wh; omega
            go_wp2_with fail
            refine (idle_any _ _ _ _).mono ?_
            rintro e w5 ⟨rfl, hb5⟩
            have n3 := m3.call hb5
            have B5 : Below w.heap.size w w5 := by (repeat (first | with_reducible exact Below.refl _ _ | with_reducible assumption | with_reducible refine below_drewN ?_ _ | with_reducible refine Below.drew ?_ | with_reducible refine Below.alloc ?_ ?_ _ | with_reducible refine Below.setCell ?_ ?_ _ | with_reducible refine bel_call ?_ (by with_reducible assumption) ?_ | (show (_ : Nat) ≤ _; first | omega | (simp <;> omega))))
            have z5 := B5.size
            have l5 := n3.lt
            clear hb5 m3 c3 f3 hx bw
            generalize min (wh c 1500) (half (wh c 1500)) = c' at *
            generalize wh s 0 = s' at *
            generalize wh p 0 = p' at *
            have n4 := n3.put3 (.int .i64 c') (.int .i64 s') (.int .i64 p')
            obtain ⟨c3, f3⟩ := n3.reads
            go_wp2_with fail
            refine (may_yes _ _ _ _ _ (wh_zero _)).mono ?_
            rintro e w6 ⟨rfl, hb6⟩
            have n5 := n4.call hb6
            have B6 : Below w.heap.size w w6 := by (repeat (first | with_reducible exact Below.refl _ _ | with_reducible assumption | with_reducible refine below_drewN ?_ _ | with_reducible refine Below.drew ?_ | with_reducible refine Below.alloc ?_ ?_ _ | with_reducible refine Below.setCell ?_ ?_ _ | with_reducible refine bel_call ?_ (by with_reducible assumption) ?_ | (show (_ : Nat) ≤ _; first | omega | (simp <;> omega))))
            have l6 := n5.lt
            clear c3 f3 n3 n4 hb6 B5
            obtain ⟨c3, f3⟩ := n5.reads
            go_wp2
            go_roundw
            case rel => exact ⟨k + 1, c', s', p', by omega, by go_num, by omega, by omega, by omega, by omega, by omega, by omega, B6, n5⟩
            case measure => simp [intOf]; omega
        · have g0 : half (wh c 1500) = max (c / 2) 6000 := by unfold half wh; omega
          have g1 := half_lo (wh c 1500)
          have g2 := half_hi (wh c 1500)
          go_wp2_with fail
          refine (timeout_any _ _ _ _).mono ?_
          rintro e w5 ⟨rfl, hb5⟩
          have n3 := m3.call hb5
          have B5 : Below w.heap.size w w5 := by (repeat (first | with_reducible exact Below.refl _ _ | with_reducible assumption | with_reducible refine below_drewN ?_ _ | with_reducible refine Below.drew ?_ | with_reducible refine Below.alloc ?_ ?_ _ | with_reducible refine Below.setCell ?_ ?_ _ | with_reducible refine bel_call ?_ (by with_reducible assumption) ?_ | (show (_ : Nat) ≤ _; first | omega | (simp <;> omega))))
          have z5 := B5.size
          have l5 := n3.lt
          clear hb5 m3 c3 f3 hx bw
          have g3 : half (wh c 1500) ≤ max c 6000 := by omega
          clear g0
          generalize half (wh c 1500) = c' at *
          have n4 := n3.put3 (.int .i64 1500) (.int .i64 c') (.int .i64 0)
          obtain ⟨c3, f3⟩ := n3.reads
          go_wp2_with fail
          refine (may_yes _ _ _ _ _ (wh_zero _)).mono ?_
          rintro e w6 ⟨rfl, hb6⟩
          have n5 := n4.call hb6
          have B6 : Below w.heap.size w w6 := by (repeat (first | with_reducible exact Below.refl _ _ | with_reducible assumption | with_reducible refine below_drewN ?_ _ | with_reducible refine Below.drew ?_ | with_reducible refine Below.alloc ?_ ?_ _ | with_reducible refine Below.setCell ?_ ?_ _ | with_reducible refine bel_call ?_ (by with_reducible assumption) ?_ | (show (_ : Nat) ≤ _; first | omega | (simp <;> omega))))
          have l6 := n5.lt
          clear c3 f3 n3 n4 hb6 B5
          obtain ⟨c3, f3⟩ := n5.reads
          go_wp2
          go_roundw
          case rel => exact ⟨k + 1, 1500, c', 0, by omega, by go_num, by omega, by omega, by omega, by omega, by omega, by omega, B6, n5⟩
          case measure => simp [intOf]; omega
      · have g0 : half (wh c 1500) = max (c / 2) 6000 := by unfold half wh; omega
        have g1 := half_lo (wh c 1500)
        have g2 := half_hi (wh c 1500)
        go_wp2_with fail
        refine (lost_any _ _ _ _).mono ?_
        rintro e w5 ⟨rfl, hb5⟩
        have n3 := m3.call hb5
        have B5 : Below w.heap.size w w5 := by (repeat (first | with_reducible exact Below.refl _ _ | with_reducible assumption | with_reducible refine below_drewN ?_ _ | with_reducible refine Below.drew ?_ | with_reducible refine Below.alloc ?_ ?_ _ | with_reducible refine Below.setCell ?_ ?_ _ | with_reducible refine bel_call ?_ (by with_reducible assumption) ?_ | (show (_ : Nat) ≤ _; first | omega | (simp <;> omega))))
        have z5 := B5.size
        have l5 := n3.lt
        clear hb5 m3 c3 f3 hx bw
        have g3 : half (wh c 1500) ≤ max c 6000 := by omega
        clear g0
        generalize half (wh c 1500) = c' at *
        have n4 := n3.put3 (.int .i64 c') (.int .i64 c') (.int .i64 0)
        obtain ⟨c3, f3⟩ := n3.reads
        go_wp2_with fail
        refine (may_yes _ _ _ _ _ (wh_zero _)).mono ?_
        rintro e w6 ⟨rfl, hb6⟩
        have n5 := n4.call hb6
        have B6 : Below w.heap.size w w6 := by (repeat (first | with_reducible exact Below.refl _ _ | with_reducible assumption | with_reducible refine below_drewN ?_ _ | with_reducible refine Below.drew ?_ | with_reducible refine Below.alloc ?_ ?_ _ | with_reducible refine Below.setCell ?_ ?_ _ | with_reducible refine bel_call ?_ (by with_reducible assumption) ?_ | (show (_ : Nat) ≤ _; first | omega | (simp <;> omega))))
        have l6 := n5.lt
        clear c3 f3 n3 n4 hb6 B5
        obtain ⟨c3, f3⟩ := n5.reads
        go_wp2
        go_roundw
        case rel => exact ⟨k + 1, c', c', 0, by omega, by go_num, by omega, by omega, by omega, by omega, by omega, by omega, B6, n5⟩
        case measure => simp [intOf]; omega
    · clear c3 f3 hI
      go_wp2
      go_ret
      exact ⟨rfl, bw⟩

theorem windowHolds_walk (A : Option Addr) (n c : Nat) (zs : List Int) (w : World) (h : IsRow .i64 w A n c zs) :
    Calls Try.prog 9 #[.slice A n c] w fun e w' => e = .returned (.bool true) ∧ Below w.heap.size w w' := by
  have hI := h.ints
  by_cases hn : n ≤ 200
  · exact windowHolds_short A n c _ w hn hI
  · exact windowHolds_long A n c w (by omega) hI.most
end Go.Proofs.Ytecgfhkdpphhcaa
