/- While it begins, a window that is full grows by what came; later by 1500 for each window of bytes: the walk of WindowGrows. -/
import Derived.Test.YtecgfhkdpphhcaaWinLosses
namespace Go.Proofs.Ytecgfhkdpphhcaa
open Go.RowKit
open Go.Proofs.Ytecgfhkdpphhcaa.Win
set_option linter.unusedVariables false

set_option maxHeartbeats 4000000 in
theorem grows_out (c s p b : Int) (w : World) (h : c < 1500 ∨ (1500 ≤ c ∧ 1048576 < c) ∨ (1500 ≤ c ∧ c ≤ 1048576 ∧ s < 0) ∨ (1500 ≤ c ∧ c ≤ 1048576 ∧ 0 ≤ s ∧ 1048576 < s) ∨
      (1500 ≤ c ∧ c ≤ 1048576 ∧ 0 ≤ s ∧ s ≤ 1048576 ∧ p < 0) ∨ (1500 ≤ c ∧ c ≤ 1048576 ∧ 0 ≤ s ∧ s ≤ 1048576 ∧ 0 ≤ p ∧ 1048576 < p) ∨
      (1500 ≤ c ∧ c ≤ 1048576 ∧ 0 ≤ s ∧ s ≤ 1048576 ∧ 0 ≤ p ∧ p ≤ 1048576 ∧ b < 0) ∨ (1500 ≤ c ∧ c ≤ 1048576 ∧ 0 ≤ s ∧ s ≤ 1048576 ∧ 0 ≤ p ∧ p ≤ 1048576 ∧ 0 ≤ b ∧ 1048576 < b)) :
    Calls Try.prog 8 #[.agg #[.int .i64 c, .int .i64 s, .int .i64 p], .int .i64 b] w fun e w' => e = .returned (.bool true) ∧ Below w.heap.size w w' := by
  have S0 := start1 w 35 #[.int .i64 c, .int .i64 s, .int .i64 p]
  rcases h with h | ⟨h1, h2⟩ | ⟨h1, h2, h3⟩ | ⟨h1, h2, h3, h4⟩ | ⟨h1, h2, h3, h4, h5⟩ | ⟨h1, h2, h3, h4, h5, h6⟩ | ⟨h1, h2, h3, h4, h5, h6, h7⟩ | ⟨h1, h2, h3, h4, h5, h6, h7, h8⟩
  all_goals
    go_enter Try.func8, Try.ntmps8
    go_wp2_with fail
    refine (wshown_any _).mono ?_
    rintro e w1 ⟨rfl, hb1⟩
    have S1 := bk1_call hb1 S0
    clear hb1 S0
    have S1' := S1
    obtain ⟨⟨B1, z1⟩, l1, c1, f1⟩ := S1'
    go_wp2_with fail
    go_ret
    exact ⟨rfl, B1⟩

section
variable (c s p b : Int) (h1 : 1500 ≤ c) (h2 : c ≤ 1048576) (h3 : 0 ≤ s) (h4 : s ≤ 1048576) (h5 : 0 ≤ p) (h6 : p ≤ 1048576) (h7 : 0 ≤ b) (h8 : b ≤ 1048576)
include h1 h2 h3 h4 h5 h6 h7 h8
theorem g_full (o : Int) (ho : 0 ≤ o) (ho' : o ≤ 1048576) (mv : Bool) : wh (akC (wh c 1500) (wh s 0) (wh p 0) (wh b 0) (wh o 0) mv) 1500 = akC c s p b o mv ∧
    wh (akP (wh c 1500) (wh s 0) (wh p 0) (wh b 0) (wh o 0) mv) 0 = akP c s p b o mv ∧ wh s 0 = s := by
  rw [wh_id c 1500 (by omega) (by omega), wh_id s 0 (by omega) (by omega), wh_id p 0 (by omega) (by omega), wh_id b 0 (by omega) (by omega), wh_id o 0 (by omega) (by omega)]
  cases mv
  · rw [akC_f, akP_f]
    exact ⟨wh_id _ _ (by omega) (by omega), wh_id _ _ (by omega) (by omega), rfl⟩
  · rw [akC_t, akP_t]
    refine ⟨wh_id _ _ ?_ ?_, wh_id _ _ ?_ ?_, rfl⟩ <;> ((repeat' split) <;> omega)
theorem acked_in (o : Int) (ho : 0 ≤ o) (ho' : o ≤ 1048576) (mv : Bool) (w : World) :
    Calls Try.prog 19 #[.agg #[.int .i64 c, .int .i64 s, .int .i64 p], .int .i64 b, .int .i64 o, .bool mv] w fun e w' =>
      e = .returned (.agg #[.int .i64 (akC c s p b o mv), .int .i64 s, .int .i64 (akP c s p b o mv)]) ∧ Below w.heap.size w w' := by
  have h := acked_any c s p b o mv w
  obtain ⟨e1, e2, e3⟩ := g_full c s p b h1 h2 h3 h4 h5 h6 h7 h8 o ho ho' mv
  rwa [e1, e2, e3] at h
end

set_option maxRecDepth 100000 in
set_option maxHeartbeats 1000000 in
theorem grows_a (c s p b : Int) (w : World) (h1 : 1500 ≤ c) (h2 : c ≤ 1048576) (h3 : 0 ≤ s) (h4 : s ≤ 1048576) (h5 : 0 ≤ p) (h6 : p ≤ 1048576) (h7 : 0 ≤ b) (h8 : b ≤ 1048576) (h : c ≤ s) :
    Calls Try.prog 8 #[.agg #[.int .i64 c, .int .i64 s, .int .i64 p], .int .i64 b] w fun e w' => e = .returned (.bool true) ∧ Below w.heap.size w w' := by
  have G1 := fun W => acked_in c s p b h1 h2 h3 h4 h5 h6 h7 h8 c (by omega) (by omega) true W
  have G2 := fun W => acked_in c s p b h1 h2 h3 h4 h5 h6 h7 h8 (c - 1) (by omega) (by omega) true W
  have G3 := fun W => acked_in c s p b h1 h2 h3 h4 h5 h6 h7 h8 c (by omega) (by omega) false W
  rw [show akC c s p b c true = c + min b 1500 from by rw [akC_t]; (repeat' split) <;> omega] at G1
  rw [show akC c s p b (c - 1) true = c from by rw [akC_t]; (repeat' split) <;> omega] at G2
  rw [akC_f, akP_f] at G3
  generalize akP c s p b c true = p1 at G1
  generalize akP c s p b (c - 1) true = p2 at G2
  have H1 := Lib.hid G1
  have H2 := Lib.hid G2
  have H3 := Lib.hid G3
  have HS := Lib.hid (fun W => slow_yes c s p W (by unfold wh; omega))
  clear G1 G2 G3
  have e0 : c + min b 1500 - c = min b 1500 := by omega
  have T0 := Whole.new w 35 #[.int .i64 c, .int .i64 s, .int .i64 p]
  obtain ⟨c_T0, f_T0⟩ := T0.reads
  have l_T0 := T0.lt
  go_enter Try.func8, Try.ntmps8
  go_wp2_with fail
  refine (wshown_any _).mono ?_
  rintro e w1 ⟨rfl, hb1⟩
  have B1 : Below w.heap.size w w1 := by (repeat (first | with_reducible exact Below.refl _ _ | with_reducible assumption | with_reducible refine below_drewN ?_ _ | with_reducible refine Below.drew ?_ | with_reducible refine Below.alloc ?_ ?_ _ | with_reducible refine Below.setCell ?_ ?_ _ | with_reducible refine bel_call ?_ (by with_reducible assumption) ?_ | (show (_ : Nat) ≤ _; first | omega | (simp <;> omega))))
  have z1 := B1.size
  replace T0 := T0.call hb1
  clear hb1
  clear c_T0 f_T0 l_T0
  obtain ⟨c_T0, f_T0⟩ := T0.reads
  have l_T0 := T0.lt
  go_wp2_with fail
  refine (H1.out _).mono ?_
  rintro e w2 ⟨rfl, hb2⟩
  have B2 : Below w.heap.size w w2 := by (repeat (first | with_reducible exact Below.refl _ _ | with_reducible assumption | with_reducible refine below_drewN ?_ _ | with_reducible refine Below.drew ?_ | with_reducible refine Below.alloc ?_ ?_ _ | with_reducible refine Below.setCell ?_ ?_ _ | with_reducible refine bel_call ?_ (by with_reducible assumption) ?_ | (show (_ : Nat) ≤ _; first | omega | (simp <;> omega))))
  have z2 := B2.size
  replace T0 := T0.call hb2
  clear hb2
  clear c_T0 f_T0 l_T0
  obtain ⟨c_T0, f_T0⟩ := T0.reads
  have l_T0 := T0.lt
  go_wp2_with fail
  refine (H2.out _).mono ?_
  rintro e w3 ⟨rfl, hb3⟩
  have B3 : Below w.heap.size w w3 := by (repeat (first | with_reducible exact Below.refl _ _ | with_reducible assumption | with_reducible refine below_drewN ?_ _ | with_reducible refine Below.drew ?_ | with_reducible refine Below.alloc ?_ ?_ _ | with_reducible refine Below.setCell ?_ ?_ _ | with_reducible refine bel_call ?_ (by with_reducible assumption) ?_ | (show (_ : Nat) ≤ _; first | omega | (simp <;> omega))))
  have z3 := B3.size
  replace T0 := (T0.alloc _).call hb3
  have T1 := (Whole.new w2 35 #[.int .i64 (c + min b 1500), .int .i64 s, .int .i64 p1]).call hb3
  clear hb3
  clear c_T0 f_T0 l_T0
  obtain ⟨c_T0, f_T0⟩ := T0.reads
  have l_T0 := T0.lt
  obtain ⟨c_T1, f_T1⟩ := T1.reads
  have l_T1 := T1.lt
  go_wp2_with fail
  refine (H3.out _).mono ?_
  rintro e w4 ⟨rfl, hb4⟩
  have B4 : Below w.heap.size w w4 := by (repeat (first | with_reducible exact Below.refl _ _ | with_reducible assumption | with_reducible refine below_drewN ?_ _ | with_reducible refine Below.drew ?_ | with_reducible refine Below.alloc ?_ ?_ _ | with_reducible refine Below.setCell ?_ ?_ _ | with_reducible refine bel_call ?_ (by with_reducible assumption) ?_ | (show (_ : Nat) ≤ _; first | omega | (simp <;> omega))))
  have z4 := B4.size
  replace T0 := (T0.alloc _).call hb4
  replace T1 := (T1.alloc _).call hb4
  have T2 := (Whole.new w3 35 #[.int .i64 c, .int .i64 s, .int .i64 p2]).call hb4
  clear hb4
  clear c_T0 f_T0 l_T0
  clear c_T1 f_T1 l_T1
  obtain ⟨c_T0, f_T0⟩ := T0.reads
  have l_T0 := T0.lt
  obtain ⟨c_T1, f_T1⟩ := T1.reads
  have l_T1 := T1.lt
  obtain ⟨c_T2, f_T2⟩ := T2.reads
  have l_T2 := T2.lt
  go_wp2_with fail
  refine (HS.out _).mono ?_
  rintro e w5 ⟨rfl, hb5⟩
  have B5 : Below w.heap.size w w5 := by (repeat (first | with_reducible exact Below.refl _ _ | with_reducible assumption | with_reducible refine below_drewN ?_ _ | with_reducible refine Below.drew ?_ | with_reducible refine Below.alloc ?_ ?_ _ | with_reducible refine Below.setCell ?_ ?_ _ | with_reducible refine bel_call ?_ (by with_reducible assumption) ?_ | (show (_ : Nat) ≤ _; first | omega | (simp <;> omega))))
  have z5 := B5.size
  replace T0 := (T0.alloc _).call hb5
  replace T1 := (T1.alloc _).call hb5
  replace T2 := (T2.alloc _).call hb5
  have T3 := (Whole.new w4 35 #[.int .i64 c, .int .i64 s, .int .i64 p]).call hb5
  clear hb5
  clear c_T0 f_T0 l_T0
  clear c_T1 f_T1 l_T1
  clear c_T2 f_T2 l_T2
  obtain ⟨c_T0, f_T0⟩ := T0.reads
  have l_T0 := T0.lt
  obtain ⟨c_T1, f_T1⟩ := T1.reads
  have l_T1 := T1.lt
  obtain ⟨c_T2, f_T2⟩ := T2.reads
  have l_T2 := T2.lt
  obtain ⟨c_T3, f_T3⟩ := T3.reads
  have l_T3 := T3.lt
  go_wp2_with fail
  refine (HS.out _).mono ?_
  rintro e w6 ⟨rfl, hb6⟩
  have B6 : Below w.heap.size w w6 := by (repeat (first | with_reducible exact Below.refl _ _ | with_reducible assumption | with_reducible refine below_drewN ?_ _ | with_reducible refine Below.drew ?_ | with_reducible refine Below.alloc ?_ ?_ _ | with_reducible refine Below.setCell ?_ ?_ _ | with_reducible refine bel_call ?_ (by with_reducible assumption) ?_ | (show (_ : Nat) ≤ _; first | omega | (simp <;> omega))))
  have z6 := B6.size
  replace T0 := T0.call hb6
  replace T1 := T1.call hb6
  replace T2 := T2.call hb6
  replace T3 := T3.call hb6
  clear hb6
  clear c_T0 f_T0 l_T0
  clear c_T1 f_T1 l_T1
  clear c_T2 f_T2 l_T2
  clear c_T3 f_T3 l_T3
  obtain ⟨c_T0, f_T0⟩ := T0.reads
  have l_T0 := T0.lt
  obtain ⟨c_T1, f_T1⟩ := T1.reads
  have l_T1 := T1.lt
  obtain ⟨c_T2, f_T2⟩ := T2.reads
  have l_T2 := T2.lt
  obtain ⟨c_T3, f_T3⟩ := T3.reads
  have l_T3 := T3.lt
  go_wp2_with fail
  refine (HS.out _).mono ?_
  rintro e w7 ⟨rfl, hb7⟩
  have B7 : Below w.heap.size w w7 := by (repeat (first | with_reducible exact Below.refl _ _ | with_reducible assumption | with_reducible refine below_drewN ?_ _ | with_reducible refine Below.drew ?_ | with_reducible refine Below.alloc ?_ ?_ _ | with_reducible refine Below.setCell ?_ ?_ _ | with_reducible refine bel_call ?_ (by with_reducible assumption) ?_ | (show (_ : Nat) ≤ _; first | omega | (simp <;> omega))))
  have z7 := B7.size
  replace T0 := T0.call hb7
  replace T1 := T1.call hb7
  replace T2 := T2.call hb7
  replace T3 := T3.call hb7
  clear hb7
  clear c_T0 f_T0 l_T0
  clear c_T1 f_T1 l_T1
  clear c_T2 f_T2 l_T2
  clear c_T3 f_T3 l_T3
  obtain ⟨c_T0, f_T0⟩ := T0.reads
  have l_T0 := T0.lt
  obtain ⟨c_T1, f_T1⟩ := T1.reads
  have l_T1 := T1.lt
  obtain ⟨c_T2, f_T2⟩ := T2.reads
  have l_T2 := T2.lt
  obtain ⟨c_T3, f_T3⟩ := T3.reads
  have l_T3 := T3.lt
  go_wp2_with fail
  go_ret
  exact ⟨rfl, B7⟩

set_option maxRecDepth 100000 in
set_option maxHeartbeats 1000000 in
theorem grows_b (c s p b : Int) (w : World) (h1 : 1500 ≤ c) (h2 : c ≤ 1048576) (h3 : 0 ≤ s) (h4 : s ≤ 1048576) (h5 : 0 ≤ p) (h6 : p ≤ 1048576) (h7 : 0 ≤ b) (h8 : b ≤ 1048576) (h : s < c) (hp : c ≤ p + b) :
    Calls Try.prog 8 #[.agg #[.int .i64 c, .int .i64 s, .int .i64 p], .int .i64 b] w fun e w' => e = .returned (.bool true) ∧ Below w.heap.size w w' := by
  have G1 := fun W => acked_in c s p b h1 h2 h3 h4 h5 h6 h7 h8 c (by omega) (by omega) true W
  have G2 := fun W => acked_in c s p b h1 h2 h3 h4 h5 h6 h7 h8 (c - 1) (by omega) (by omega) true W
  have G3 := fun W => acked_in c s p b h1 h2 h3 h4 h5 h6 h7 h8 c (by omega) (by omega) false W
  rw [show akC c s p b c true = c + 1500 from by rw [akC_t]; (repeat' split) <;> omega] at G1
  rw [show akC c s p b (c - 1) true = c from by rw [akC_t]; (repeat' split) <;> omega] at G2
  rw [akC_f, akP_f] at G3
  generalize akP c s p b c true = p1 at G1
  generalize akP c s p b (c - 1) true = p2 at G2
  have H1 := Lib.hid G1
  have H2 := Lib.hid G2
  have H3 := Lib.hid G3
  have HS := Lib.hid (fun W => slow_no c s p W (by unfold wh; omega))
  clear G1 G2 G3
  have e0 : c + 1500 - c = 1500 := by omega
  have T0 := Whole.new w 35 #[.int .i64 c, .int .i64 s, .int .i64 p]
  obtain ⟨c_T0, f_T0⟩ := T0.reads
  have l_T0 := T0.lt
  go_enter Try.func8, Try.ntmps8
  go_wp2_with fail
  refine (wshown_any _).mono ?_
  rintro e w1 ⟨rfl, hb1⟩
  have B1 : Below w.heap.size w w1 := by (repeat (first | with_reducible exact Below.refl _ _ | with_reducible assumption | with_reducible refine below_drewN ?_ _ | with_reducible refine Below.drew ?_ | with_reducible refine Below.alloc ?_ ?_ _ | with_reducible refine Below.setCell ?_ ?_ _ | with_reducible refine bel_call ?_ (by with_reducible assumption) ?_ | (show (_ : Nat) ≤ _; first | omega | (simp <;> omega))))
  have z1 := B1.size
  replace T0 := T0.call hb1
  clear hb1
  clear c_T0 f_T0 l_T0
  obtain ⟨c_T0, f_T0⟩ := T0.reads
  have l_T0 := T0.lt
  go_wp2_with fail
  refine (H1.out _).mono ?_
  rintro e w2 ⟨rfl, hb2⟩
  have B2 : Below w.heap.size w w2 := by (repeat (first | with_reducible exact Below.refl _ _ | with_reducible assumption | with_reducible refine below_drewN ?_ _ | with_reducible refine Below.drew ?_ | with_reducible refine Below.alloc ?_ ?_ _ | with_reducible refine Below.setCell ?_ ?_ _ | with_reducible refine bel_call ?_ (by with_reducible assumption) ?_ | (show (_ : Nat) ≤ _; first | omega | (simp <;> omega))))
  have z2 := B2.size
  replace T0 := T0.call hb2
  clear hb2
  clear c_T0 f_T0 l_T0
  obtain ⟨c_T0, f_T0⟩ := T0.reads
  have l_T0 := T0.lt
  go_wp2_with fail
  refine (H2.out _).mono ?_
  rintro e w3 ⟨rfl, hb3⟩
  have B3 : Below w.heap.size w w3 := by (repeat (first | with_reducible exact Below.refl _ _ | with_reducible assumption | with_reducible refine below_drewN ?_ _ | with_reducible refine Below.drew ?_ | with_reducible refine Below.alloc ?_ ?_ _ | with_reducible refine Below.setCell ?_ ?_ _ | with_reducible refine bel_call ?_ (by with_reducible assumption) ?_ | (show (_ : Nat) ≤ _; first | omega | (simp <;> omega))))
  have z3 := B3.size
  replace T0 := (T0.alloc _).call hb3
  have T1 := (Whole.new w2 35 #[.int .i64 (c + 1500), .int .i64 s, .int .i64 p1]).call hb3
  clear hb3
  clear c_T0 f_T0 l_T0
  obtain ⟨c_T0, f_T0⟩ := T0.reads
  have l_T0 := T0.lt
  obtain ⟨c_T1, f_T1⟩ := T1.reads
  have l_T1 := T1.lt
  go_wp2_with fail
  refine (H3.out _).mono ?_
  rintro e w4 ⟨rfl, hb4⟩
  have B4 : Below w.heap.size w w4 := by (repeat (first | with_reducible exact Below.refl _ _ | with_reducible assumption | with_reducible refine below_drewN ?_ _ | with_reducible refine Below.drew ?_ | with_reducible refine Below.alloc ?_ ?_ _ | with_reducible refine Below.setCell ?_ ?_ _ | with_reducible refine bel_call ?_ (by with_reducible assumption) ?_ | (show (_ : Nat) ≤ _; first | omega | (simp <;> omega))))
  have z4 := B4.size
  replace T0 := (T0.alloc _).call hb4
  replace T1 := (T1.alloc _).call hb4
  have T2 := (Whole.new w3 35 #[.int .i64 c, .int .i64 s, .int .i64 p2]).call hb4
  clear hb4
  clear c_T0 f_T0 l_T0
  clear c_T1 f_T1 l_T1
  obtain ⟨c_T0, f_T0⟩ := T0.reads
  have l_T0 := T0.lt
  obtain ⟨c_T1, f_T1⟩ := T1.reads
  have l_T1 := T1.lt
  obtain ⟨c_T2, f_T2⟩ := T2.reads
  have l_T2 := T2.lt
  go_wp2_with fail
  refine (HS.out _).mono ?_
  rintro e w5 ⟨rfl, hb5⟩
  have B5 : Below w.heap.size w w5 := by (repeat (first | with_reducible exact Below.refl _ _ | with_reducible assumption | with_reducible refine below_drewN ?_ _ | with_reducible refine Below.drew ?_ | with_reducible refine Below.alloc ?_ ?_ _ | with_reducible refine Below.setCell ?_ ?_ _ | with_reducible refine bel_call ?_ (by with_reducible assumption) ?_ | (show (_ : Nat) ≤ _; first | omega | (simp <;> omega))))
  have z5 := B5.size
  replace T0 := (T0.alloc _).call hb5
  replace T1 := (T1.alloc _).call hb5
  replace T2 := (T2.alloc _).call hb5
  have T3 := (Whole.new w4 35 #[.int .i64 c, .int .i64 s, .int .i64 p]).call hb5
  clear hb5
  clear c_T0 f_T0 l_T0
  clear c_T1 f_T1 l_T1
  clear c_T2 f_T2 l_T2
  obtain ⟨c_T0, f_T0⟩ := T0.reads
  have l_T0 := T0.lt
  obtain ⟨c_T1, f_T1⟩ := T1.reads
  have l_T1 := T1.lt
  obtain ⟨c_T2, f_T2⟩ := T2.reads
  have l_T2 := T2.lt
  obtain ⟨c_T3, f_T3⟩ := T3.reads
  have l_T3 := T3.lt
  go_wp2_with fail
  refine (HS.out _).mono ?_
  rintro e w6 ⟨rfl, hb6⟩
  have B6 : Below w.heap.size w w6 := by (repeat (first | with_reducible exact Below.refl _ _ | with_reducible assumption | with_reducible refine below_drewN ?_ _ | with_reducible refine Below.drew ?_ | with_reducible refine Below.alloc ?_ ?_ _ | with_reducible refine Below.setCell ?_ ?_ _ | with_reducible refine bel_call ?_ (by with_reducible assumption) ?_ | (show (_ : Nat) ≤ _; first | omega | (simp <;> omega))))
  have z6 := B6.size
  replace T0 := T0.call hb6
  replace T1 := T1.call hb6
  replace T2 := T2.call hb6
  replace T3 := T3.call hb6
  clear hb6
  clear c_T0 f_T0 l_T0
  clear c_T1 f_T1 l_T1
  clear c_T2 f_T2 l_T2
  clear c_T3 f_T3 l_T3
  obtain ⟨c_T0, f_T0⟩ := T0.reads
  have l_T0 := T0.lt
  obtain ⟨c_T1, f_T1⟩ := T1.reads
  have l_T1 := T1.lt
  obtain ⟨c_T2, f_T2⟩ := T2.reads
  have l_T2 := T2.lt
  obtain ⟨c_T3, f_T3⟩ := T3.reads
  have l_T3 := T3.lt
  go_wp2_with fail
  refine (HS.out _).mono ?_
  rintro e w7 ⟨rfl, hb7⟩
  have B7 : Below w.heap.size w w7 := by (repeat (first | with_reducible exact Below.refl _ _ | with_reducible assumption | with_reducible refine below_drewN ?_ _ | with_reducible refine Below.drew ?_ | with_reducible refine Below.alloc ?_ ?_ _ | with_reducible refine Below.setCell ?_ ?_ _ | with_reducible refine bel_call ?_ (by with_reducible assumption) ?_ | (show (_ : Nat) ≤ _; first | omega | (simp <;> omega))))
  have z7 := B7.size
  replace T0 := T0.call hb7
  replace T1 := T1.call hb7
  replace T2 := T2.call hb7
  replace T3 := T3.call hb7
  clear hb7
  clear c_T0 f_T0 l_T0
  clear c_T1 f_T1 l_T1
  clear c_T2 f_T2 l_T2
  clear c_T3 f_T3 l_T3
  obtain ⟨c_T0, f_T0⟩ := T0.reads
  have l_T0 := T0.lt
  obtain ⟨c_T1, f_T1⟩ := T1.reads
  have l_T1 := T1.lt
  obtain ⟨c_T2, f_T2⟩ := T2.reads
  have l_T2 := T2.lt
  obtain ⟨c_T3, f_T3⟩ := T3.reads
  have l_T3 := T3.lt
  go_wp2_with fail
  go_ret
  exact ⟨rfl, B7⟩

set_option maxRecDepth 100000 in
set_option maxHeartbeats 1000000 in
theorem grows_c (c s p b : Int) (w : World) (h1 : 1500 ≤ c) (h2 : c ≤ 1048576) (h3 : 0 ≤ s) (h4 : s ≤ 1048576) (h5 : 0 ≤ p) (h6 : p ≤ 1048576) (h7 : 0 ≤ b) (h8 : b ≤ 1048576) (h : s < c) (hp : p + b < c) :
    Calls Try.prog 8 #[.agg #[.int .i64 c, .int .i64 s, .int .i64 p], .int .i64 b] w fun e w' => e = .returned (.bool true) ∧ Below w.heap.size w w' := by
  have G1 := fun W => acked_in c s p b h1 h2 h3 h4 h5 h6 h7 h8 c (by omega) (by omega) true W
  have G2 := fun W => acked_in c s p b h1 h2 h3 h4 h5 h6 h7 h8 (c - 1) (by omega) (by omega) true W
  have G3 := fun W => acked_in c s p b h1 h2 h3 h4 h5 h6 h7 h8 c (by omega) (by omega) false W
  rw [show akC c s p b c true = c from by rw [akC_t]; (repeat' split) <;> omega] at G1
  rw [show akC c s p b (c - 1) true = c from by rw [akC_t]; (repeat' split) <;> omega] at G2
  rw [akC_f, akP_f] at G3
  generalize akP c s p b c true = p1 at G1
  generalize akP c s p b (c - 1) true = p2 at G2
  have H1 := Lib.hid G1
  have H2 := Lib.hid G2
  have H3 := Lib.hid G3
  have HS := Lib.hid (fun W => slow_no c s p W (by unfold wh; omega))
  clear G1 G2 G3
  have T0 := Whole.new w 35 #[.int .i64 c, .int .i64 s, .int .i64 p]
  obtain ⟨c_T0, f_T0⟩ := T0.reads
  have l_T0 := T0.lt
  go_enter Try.func8, Try.ntmps8
  go_wp2_with fail
  refine (wshown_any _).mono ?_
  rintro e w1 ⟨rfl, hb1⟩
  have B1 : Below w.heap.size w w1 := by (repeat (first | with_reducible exact Below.refl _ _ | with_reducible assumption | with_reducible refine below_drewN ?_ _ | with_reducible refine Below.drew ?_ | with_reducible refine Below.alloc ?_ ?_ _ | with_reducible refine Below.setCell ?_ ?_ _ | with_reducible refine bel_call ?_ (by with_reducible assumption) ?_ | (show (_ : Nat) ≤ _; first | omega | (simp <;> omega))))
  have z1 := B1.size
  replace T0 := T0.call hb1
  clear hb1
  clear c_T0 f_T0 l_T0
  obtain ⟨c_T0, f_T0⟩ := T0.reads
  have l_T0 := T0.lt
  go_wp2_with fail
  refine (H1.out _).mono ?_
  rintro e w2 ⟨rfl, hb2⟩
  have B2 : Below w.heap.size w w2 := by (repeat (first | with_reducible exact Below.refl _ _ | with_reducible assumption | with_reducible refine below_drewN ?_ _ | with_reducible refine Below.drew ?_ | with_reducible refine Below.alloc ?_ ?_ _ | with_reducible refine Below.setCell ?_ ?_ _ | with_reducible refine bel_call ?_ (by with_reducible assumption) ?_ | (show (_ : Nat) ≤ _; first | omega | (simp <;> omega))))
  have z2 := B2.size
  replace T0 := T0.call hb2
  clear hb2
  clear c_T0 f_T0 l_T0
  obtain ⟨c_T0, f_T0⟩ := T0.reads
  have l_T0 := T0.lt
  go_wp2_with fail
  refine (H2.out _).mono ?_
  rintro e w3 ⟨rfl, hb3⟩
  have B3 : Below w.heap.size w w3 := by (repeat (first | with_reducible exact Below.refl _ _ | with_reducible assumption | with_reducible refine below_drewN ?_ _ | with_reducible refine Below.drew ?_ | with_reducible refine Below.alloc ?_ ?_ _ | with_reducible refine Below.setCell ?_ ?_ _ | with_reducible refine bel_call ?_ (by with_reducible assumption) ?_ | (show (_ : Nat) ≤ _; first | omega | (simp <;> omega))))
  have z3 := B3.size
  replace T0 := (T0.alloc _).call hb3
  have T1 := (Whole.new w2 35 #[.int .i64 c, .int .i64 s, .int .i64 p1]).call hb3
  clear hb3
  clear c_T0 f_T0 l_T0
  obtain ⟨c_T0, f_T0⟩ := T0.reads
  have l_T0 := T0.lt
  obtain ⟨c_T1, f_T1⟩ := T1.reads
  have l_T1 := T1.lt
  go_wp2_with fail
  refine (H3.out _).mono ?_
  rintro e w4 ⟨rfl, hb4⟩
  have B4 : Below w.heap.size w w4 := by (repeat (first | with_reducible exact Below.refl _ _ | with_reducible assumption | with_reducible refine below_drewN ?_ _ | with_reducible refine Below.drew ?_ | with_reducible refine Below.alloc ?_ ?_ _ | with_reducible refine Below.setCell ?_ ?_ _ | with_reducible refine bel_call ?_ (by with_reducible assumption) ?_ | (show (_ : Nat) ≤ _; first | omega | (simp <;> omega))))
  have z4 := B4.size
  replace T0 := (T0.alloc _).call hb4
  replace T1 := (T1.alloc _).call hb4
  have T2 := (Whole.new w3 35 #[.int .i64 c, .int .i64 s, .int .i64 p2]).call hb4
  clear hb4
  clear c_T0 f_T0 l_T0
  clear c_T1 f_T1 l_T1
  obtain ⟨c_T0, f_T0⟩ := T0.reads
  have l_T0 := T0.lt
  obtain ⟨c_T1, f_T1⟩ := T1.reads
  have l_T1 := T1.lt
  obtain ⟨c_T2, f_T2⟩ := T2.reads
  have l_T2 := T2.lt
  go_wp2_with fail
  refine (HS.out _).mono ?_
  rintro e w5 ⟨rfl, hb5⟩
  have B5 : Below w.heap.size w w5 := by (repeat (first | with_reducible exact Below.refl _ _ | with_reducible assumption | with_reducible refine below_drewN ?_ _ | with_reducible refine Below.drew ?_ | with_reducible refine Below.alloc ?_ ?_ _ | with_reducible refine Below.setCell ?_ ?_ _ | with_reducible refine bel_call ?_ (by with_reducible assumption) ?_ | (show (_ : Nat) ≤ _; first | omega | (simp <;> omega))))
  have z5 := B5.size
  replace T0 := (T0.alloc _).call hb5
  replace T1 := (T1.alloc _).call hb5
  replace T2 := (T2.alloc _).call hb5
  have T3 := (Whole.new w4 35 #[.int .i64 c, .int .i64 s, .int .i64 p]).call hb5
  clear hb5
  clear c_T0 f_T0 l_T0
  clear c_T1 f_T1 l_T1
  clear c_T2 f_T2 l_T2
  obtain ⟨c_T0, f_T0⟩ := T0.reads
  have l_T0 := T0.lt
  obtain ⟨c_T1, f_T1⟩ := T1.reads
  have l_T1 := T1.lt
  obtain ⟨c_T2, f_T2⟩ := T2.reads
  have l_T2 := T2.lt
  obtain ⟨c_T3, f_T3⟩ := T3.reads
  have l_T3 := T3.lt
  go_wp2_with fail
  refine (HS.out _).mono ?_
  rintro e w6 ⟨rfl, hb6⟩
  have B6 : Below w.heap.size w w6 := by (repeat (first | with_reducible exact Below.refl _ _ | with_reducible assumption | with_reducible refine below_drewN ?_ _ | with_reducible refine Below.drew ?_ | with_reducible refine Below.alloc ?_ ?_ _ | with_reducible refine Below.setCell ?_ ?_ _ | with_reducible refine bel_call ?_ (by with_reducible assumption) ?_ | (show (_ : Nat) ≤ _; first | omega | (simp <;> omega))))
  have z6 := B6.size
  replace T0 := T0.call hb6
  replace T1 := T1.call hb6
  replace T2 := T2.call hb6
  replace T3 := T3.call hb6
  clear hb6
  clear c_T0 f_T0 l_T0
  clear c_T1 f_T1 l_T1
  clear c_T2 f_T2 l_T2
  clear c_T3 f_T3 l_T3
  obtain ⟨c_T0, f_T0⟩ := T0.reads
  have l_T0 := T0.lt
  obtain ⟨c_T1, f_T1⟩ := T1.reads
  have l_T1 := T1.lt
  obtain ⟨c_T2, f_T2⟩ := T2.reads
  have l_T2 := T2.lt
  obtain ⟨c_T3, f_T3⟩ := T3.reads
  have l_T3 := T3.lt
  go_wp2_with fail
  refine (HS.out _).mono ?_
  rintro e w7 ⟨rfl, hb7⟩
  have B7 : Below w.heap.size w w7 := by (repeat (first | with_reducible exact Below.refl _ _ | with_reducible assumption | with_reducible refine below_drewN ?_ _ | with_reducible refine Below.drew ?_ | with_reducible refine Below.alloc ?_ ?_ _ | with_reducible refine Below.setCell ?_ ?_ _ | with_reducible refine bel_call ?_ (by with_reducible assumption) ?_ | (show (_ : Nat) ≤ _; first | omega | (simp <;> omega))))
  have z7 := B7.size
  replace T0 := T0.call hb7
  replace T1 := T1.call hb7
  replace T2 := T2.call hb7
  replace T3 := T3.call hb7
  clear hb7
  clear c_T0 f_T0 l_T0
  clear c_T1 f_T1 l_T1
  clear c_T2 f_T2 l_T2
  clear c_T3 f_T3 l_T3
  obtain ⟨c_T0, f_T0⟩ := T0.reads
  have l_T0 := T0.lt
  obtain ⟨c_T1, f_T1⟩ := T1.reads
  have l_T1 := T1.lt
  obtain ⟨c_T2, f_T2⟩ := T2.reads
  have l_T2 := T2.lt
  obtain ⟨c_T3, f_T3⟩ := T3.reads
  have l_T3 := T3.lt
  go_wp2_with fail
  go_ret
  exact ⟨rfl, B7⟩

theorem windowGrows_walk (c s p b : Int) (w : World) (w0 : (Lit.int .i64 c).wf = true) (w1 : (Lit.int .i64 s).wf = true) (w2 : (Lit.int .i64 p).wf = true) (w3 : (Lit.int .i64 b).wf = true) :
    Calls Try.prog 8 #[.agg #[.int .i64 c, .int .i64 s, .int .i64 p], .int .i64 b] w fun e w' => e = .returned (.bool true) ∧ Below w.heap.size w w' := by
  by_cases h : 1500 ≤ c ∧ c ≤ 1048576 ∧ 0 ≤ s ∧ s ≤ 1048576 ∧ 0 ≤ p ∧ p ≤ 1048576 ∧ 0 ≤ b ∧ b ≤ 1048576
  · obtain ⟨h1, h2, h3, h4, h5, h6, h7, h8⟩ := h
    by_cases ha : c ≤ s
    · exact grows_a c s p b w h1 h2 h3 h4 h5 h6 h7 h8 ha
    · by_cases hb : c ≤ p + b
      · exact grows_b c s p b w h1 h2 h3 h4 h5 h6 h7 h8 (by omega) hb
      · exact grows_c c s p b w h1 h2 h3 h4 h5 h6 h7 h8 (by omega) (by omega)
  · exact grows_out c s p b w (by omega)
end Go.Proofs.Ytecgfhkdpphhcaa
