/- What was lost halves a window: the walk of WindowLosses, for every window. -/
import Derived.Test.YtecgfhkdpphhcaaWinMays
namespace Go.Proofs.Ytecgfhkdpphhcaa
open Go.RowKit
open Go.Proofs.Ytecgfhkdpphhcaa.Win
set_option linter.unusedVariables false

theorem slow_yes (c s p : Int) (w : World) (h : wh c 1500 ≤ wh s 0) :
    Calls Try.prog 20 #[.agg #[.int .i64 c, .int .i64 s, .int .i64 p]] w fun e w' => e = .returned (.bool true) ∧ Below w.heap.size w w' := by
  have := slow_any c s p w
  rwa [show decide (wh c 1500 ≤ wh s 0) = true from by simpa using h] at this
theorem slow_no (c s p : Int) (w : World) (h : wh s 0 < wh c 1500) :
    Calls Try.prog 20 #[.agg #[.int .i64 c, .int .i64 s, .int .i64 p]] w fun e w' => e = .returned (.bool false) ∧ Below w.heap.size w w' := by
  have := slow_any c s p w
  rwa [show decide (wh c 1500 ≤ wh s 0) = false from by simpa using h] at this

theorem half_in (c : Int) (h : 1500 ≤ c) (h' : c ≤ 1073741824) : half (wh c 1500) = max (c / 2) 6000 := by unfold half wh; omega
theorem idle_in (c : Int) (h : 1500 ≤ c) (h' : c ≤ 1073741824) : min (wh c 1500) (half (wh c 1500)) = min c (max (c / 2) 6000) := by unfold half wh; omega
theorem slow_half (c : Int) (h : 1500 ≤ c) (h' : c ≤ 1073741824) : wh (max (c / 2) 6000) 1500 ≤ wh (max (c / 2) 6000) 0 := by unfold wh; omega
theorem slow_mtu (c : Int) (h : 1500 ≤ c) (h' : c ≤ 1073741824) : wh 1500 1500 ≤ wh (max (c / 2) 6000) 0 := by unfold wh; omega

theorem losses_out (c s p : Int) (w : World) (h : c < 1500 ∨ (1500 ≤ c ∧ 1073741824 < c)) :
    Calls Try.prog 10 #[.agg #[.int .i64 c, .int .i64 s, .int .i64 p]] w fun e w' => e = .returned (.bool true) ∧ Below w.heap.size w w' := by
  have S0 := start1 w 35 #[.int .i64 c, .int .i64 s, .int .i64 p]
  rcases h with h | ⟨h1, h2⟩
  all_goals
    go_enter Try.func10, Try.ntmps10
    go_wp2_with fail
    refine (wshown_any _).mono ?_
    rintro e w1 ⟨rfl, hb1⟩
    have S1 := bk1_call hb1 S0
    clear hb1 S0
    have S1' := S1
    obtain ⟨⟨B1, z1⟩, l1, c1, f1⟩ := S1'
    go_wp2_with fail
    go_ret
    exact ⟨rfl, B1⟩

theorem losses_in (c s p : Int) (w : World) (h : 1500 ≤ c) (h' : c ≤ 1073741824) :
    Calls Try.prog 10 #[.agg #[.int .i64 c, .int .i64 s, .int .i64 p]] w fun e w' => e = .returned (.bool true) ∧ Below w.heap.size w w' := by
  have G1 := fun W => lost_any c s p W
  have G2 := fun W => timeout_any c s p W
  have G3 := fun W => idle_any c s p W
  rw [half_in c h h'] at G1 G2
  rw [idle_in c h h'] at G3
  have H1 := Lib.hid G1
  have H2 := Lib.hid G2
  have H3 := Lib.hid G3
  clear G1 G2 G3
  have T0 := Whole.new w 35 #[.int .i64 c, .int .i64 s, .int .i64 p]
  obtain ⟨c_T0, f_T0⟩ := T0.reads
  have l_T0 := T0.lt
  go_enter Try.func10, Try.ntmps10
  go_wp2_with fail
  refine (wshown_any _).mono ?_
  rintro e w1 ⟨rfl, hb1⟩
  have B1 : Below w.heap.size w w1 := by (repeat (first | with_reducible exact Below.refl _ _ | with_reducible assumption | with_reducible refine below_drewN ?_ _ | with_reducible refine Below.drew ?_ | with_reducible refine Below.alloc ?_ ?_ _ | with_reducible refine Below.setCell ?_ ?_ _ | with_reducible refine bel_call ?_ (by with_reducible assumption) ?_ | (show (_ : Nat) ≤ _; first | omega | (simp <;> omega))))
  have z1 := B1.size
  replace T0 := T0.call hb1
  clear hb1
  clear c_T0 f_T0 l_T0
  obtain ⟨c_T0, f_T0⟩ := T0.reads
  have l_T0 := T0.lt
  go_wp2_with fail
  refine (H1.out _).mono ?_
  rintro e w2 ⟨rfl, hb2⟩
  have B2 : Below w.heap.size w w2 := by (repeat (first | with_reducible exact Below.refl _ _ | with_reducible assumption | with_reducible refine below_drewN ?_ _ | with_reducible refine Below.drew ?_ | with_reducible refine Below.alloc ?_ ?_ _ | with_reducible refine Below.setCell ?_ ?_ _ | with_reducible refine bel_call ?_ (by with_reducible assumption) ?_ | (show (_ : Nat) ≤ _; first | omega | (simp <;> omega))))
  have z2 := B2.size
  replace T0 := T0.call hb2
  clear hb2
  clear c_T0 f_T0 l_T0
  obtain ⟨c_T0, f_T0⟩ := T0.reads
  have l_T0 := T0.lt
  go_wp2_with fail
  refine (H2.out _).mono ?_
  rintro e w3 ⟨rfl, hb3⟩
  have B3 : Below w.heap.size w w3 := by (repeat (first | with_reducible exact Below.refl _ _ | with_reducible assumption | with_reducible refine below_drewN ?_ _ | with_reducible refine Below.drew ?_ | with_reducible refine Below.alloc ?_ ?_ _ | with_reducible refine Below.setCell ?_ ?_ _ | with_reducible refine bel_call ?_ (by with_reducible assumption) ?_ | (show (_ : Nat) ≤ _; first | omega | (simp <;> omega))))
  have z3 := B3.size
  replace T0 := (T0.alloc _).call hb3
  have T1 := (Whole.new w2 35 #[.int .i64 (max (c / 2) 6000), .int .i64 (max (c / 2) 6000), .int .i64 0]).call hb3
  clear hb3
  clear c_T0 f_T0 l_T0
  obtain ⟨c_T0, f_T0⟩ := T0.reads
  have l_T0 := T0.lt
  obtain ⟨c_T1, f_T1⟩ := T1.reads
  have l_T1 := T1.lt
  go_wp2_with fail
  refine (H3.out _).mono ?_
  rintro e w4 ⟨rfl, hb4⟩
  have B4 : Below w.heap.size w w4 := by (repeat (first | with_reducible exact Below.refl _ _ | with_reducible assumption | with_reducible refine below_drewN ?_ _ | with_reducible refine Below.drew ?_ | with_reducible refine Below.alloc ?_ ?_ _ | with_reducible refine Below.setCell ?_ ?_ _ | with_reducible refine bel_call ?_ (by with_reducible assumption) ?_ | (show (_ : Nat) ≤ _; first | omega | (simp <;> omega))))
  have z4 := B4.size
  replace T0 := (T0.alloc _).call hb4
  replace T1 := (T1.alloc _).call hb4
  have T2 := (Whole.new w3 35 #[.int .i64 1500, .int .i64 (max (c / 2) 6000), .int .i64 0]).call hb4
  clear hb4
  clear c_T0 f_T0 l_T0
  clear c_T1 f_T1 l_T1
  obtain ⟨c_T0, f_T0⟩ := T0.reads
  have l_T0 := T0.lt
  obtain ⟨c_T1, f_T1⟩ := T1.reads
  have l_T1 := T1.lt
  obtain ⟨c_T2, f_T2⟩ := T2.reads
  have l_T2 := T2.lt
  go_wp2_with fail
  refine (slow_yes _ _ _ _ (slow_half c h h')).mono ?_
  rintro e w5 ⟨rfl, hb5⟩
  have B5 : Below w.heap.size w w5 := by (repeat (first | with_reducible exact Below.refl _ _ | with_reducible assumption | with_reducible refine below_drewN ?_ _ | with_reducible refine Below.drew ?_ | with_reducible refine Below.alloc ?_ ?_ _ | with_reducible refine Below.setCell ?_ ?_ _ | with_reducible refine bel_call ?_ (by with_reducible assumption) ?_ | (show (_ : Nat) ≤ _; first | omega | (simp <;> omega))))
  have z5 := B5.size
  replace T0 := (T0.alloc _).call hb5
  replace T1 := (T1.alloc _).call hb5
  replace T2 := (T2.alloc _).call hb5
  have T3 := (Whole.new w4 35 #[.int .i64 (min c (max (c / 2) 6000)), .int .i64 (wh s 0), .int .i64 (wh p 0)]).call hb5
  clear hb5
  clear c_T0 f_T0 l_T0
  clear c_T1 f_T1 l_T1
  clear c_T2 f_T2 l_T2
  obtain ⟨c_T0, f_T0⟩ := T0.reads
  have l_T0 := T0.lt
  obtain ⟨c_T1, f_T1⟩ := T1.reads
  have l_T1 := T1.lt
  obtain ⟨c_T2, f_T2⟩ := T2.reads
  have l_T2 := T2.lt
  obtain ⟨c_T3, f_T3⟩ := T3.reads
  have l_T3 := T3.lt
  go_wp2_with fail
  refine (slow_yes _ _ _ _ (slow_mtu c h h')).mono ?_
  rintro e w6 ⟨rfl, hb6⟩
  have B6 : Below w.heap.size w w6 := by (repeat (first | with_reducible exact Below.refl _ _ | with_reducible assumption | with_reducible refine below_drewN ?_ _ | with_reducible refine Below.drew ?_ | with_reducible refine Below.alloc ?_ ?_ _ | with_reducible refine Below.setCell ?_ ?_ _ | with_reducible refine bel_call ?_ (by with_reducible assumption) ?_ | (show (_ : Nat) ≤ _; first | omega | (simp <;> omega))))
  have z6 := B6.size
  replace T0 := T0.call hb6
  replace T1 := T1.call hb6
  replace T2 := T2.call hb6
  replace T3 := T3.call hb6
  clear hb6
  clear c_T0 f_T0 l_T0
  clear c_T1 f_T1 l_T1
  clear c_T2 f_T2 l_T2
  clear c_T3 f_T3 l_T3
  obtain ⟨c_T0, f_T0⟩ := T0.reads
  have l_T0 := T0.lt
  obtain ⟨c_T1, f_T1⟩ := T1.reads
  have l_T1 := T1.lt
  obtain ⟨c_T2, f_T2⟩ := T2.reads
  have l_T2 := T2.lt
  obtain ⟨c_T3, f_T3⟩ := T3.reads
  have l_T3 := T3.lt
  go_wp2_with fail
  go_ret
  exact ⟨rfl, B6⟩

theorem windowLosses_walk (c s p : Int) (w : World) (w0 : (Lit.int .i64 c).wf = true) (w1 : (Lit.int .i64 s).wf = true) (w2 : (Lit.int .i64 p).wf = true) :
    Calls Try.prog 10 #[.agg #[.int .i64 c, .int .i64 s, .int .i64 p]] w fun e w' => e = .returned (.bool true) ∧ Below w.heap.size w w' := by
  by_cases h : 1500 ≤ c ∧ c ≤ 1073741824
  · exact losses_in c s p w h.1 h.2
  · exact losses_out c s p w (by omega)
end Go.Proofs.Ytecgfhkdpphhcaa
