/- The examples of chapter 11 stand; and: more may be sent just while less than the window is under way: the walk of WindowMays. -/
import Derived.Test.YtecgfhkdpphhcaaWinAck
namespace Go.Proofs.Ytecgfhkdpphhcaa
open Go.RowKit
open Go.Proofs.Ytecgfhkdpphhcaa.Win
set_option linter.unusedVariables false

attribute [local go_sem] wfield0

theorem may_yes (c s p n : Int) (w : World) (h : wh n 0 < wh c 1500) :
    Calls Try.prog 18 #[.agg #[.int .i64 c, .int .i64 s, .int .i64 p], .int .i64 n] w fun e w' => e = .returned (.bool true) ∧ Below w.heap.size w w' := by
  have := may_any c s p n w
  rwa [show decide (wh n 0 < wh c 1500) = true from by simpa using h] at this
theorem may_no (c s p n : Int) (w : World) (h : wh c 1500 ≤ wh n 0) :
    Calls Try.prog 18 #[.agg #[.int .i64 c, .int .i64 s, .int .i64 p], .int .i64 n] w fun e w' => e = .returned (.bool false) ∧ Below w.heap.size w w' := by
  have := may_any c s p n w
  rwa [show decide (wh n 0 < wh c 1500) = false from by simpa using h] at this

theorem wshown_any (w : World) : Calls Try.prog 17 #[] w fun e w' => e = .returned (.bool true) ∧ Below w.heap.size w w' := by
  have G1 := fun W => wnew_any 60000 W
  rw [show wh 60000 0 = 60000 from by decide] at G1
  have G2 := fun W => acked_any 4500 60000 0 1500 4500 true W
  rw [show wh (akC (wh 4500 1500) (wh 60000 0) (wh 0 0) (wh 1500 0) (wh 4500 0) true) 1500 = 6000 from by decide] at G2
  have G3 := fun W => timeout_any 12000 60000 5 W
  rw [show half (wh 12000 1500) = 6000 from by decide] at G3
  have H1 := Lib.hid G1
  have H2 := Lib.hid G2
  have H3 := Lib.hid G3
  clear G1 G2 G3
  go_enter Try.func17, Try.ntmps17
  go_wp2_with fail
  refine (H1.out _).mono ?_
  rintro e w1 ⟨rfl, hb1⟩
  have z1 := hb1.size
  go_wp2_with fail
  refine (H2.out _).mono ?_
  rintro e w2 ⟨rfl, hb2⟩
  have B2 : Below w.heap.size w w2 := by (repeat (first | with_reducible exact Below.refl _ _ | with_reducible assumption | with_reducible refine below_drewN ?_ _ | with_reducible refine Below.drew ?_ | with_reducible refine Below.alloc ?_ ?_ _ | with_reducible refine Below.setCell ?_ ?_ _ | with_reducible refine bel_call ?_ (by with_reducible assumption) ?_ | (show (_ : Nat) ≤ _; first | omega | (simp <;> omega))))
  have z2 := B2.size
  clear hb1 hb2
  go_wp2_with fail
  refine (H3.out _).mono ?_
  rintro e w3 ⟨rfl, hb3⟩
  have B3 : Below w.heap.size w w3 := by (repeat (first | with_reducible exact Below.refl _ _ | with_reducible assumption | with_reducible refine below_drewN ?_ _ | with_reducible refine Below.drew ?_ | with_reducible refine Below.alloc ?_ ?_ _ | with_reducible refine Below.setCell ?_ ?_ _ | with_reducible refine bel_call ?_ (by with_reducible assumption) ?_ | (show (_ : Nat) ≤ _; first | omega | (simp <;> omega))))
  go_wp2
  go_ret
  exact ⟨rfl, B3⟩
theorem wh_mono (a b : Int) (h : a ≤ b) : wh a 0 ≤ wh b 0 := by unfold wh; omega
theorem wh_zero (c : Int) : wh 0 0 < wh c 1500 := by unfold wh; omega
theorem wh_neg (c : Int) : wh (-1) 0 < wh c 1500 := by unfold wh; omega
theorem wh_pred (c : Int) (h : 1500 ≤ c) (h' : c ≤ 1073741824) : wh (c - 1) 0 < wh c 1500 := by unfold wh; omega
theorem wh_self (c : Int) (h : 1500 ≤ c) (h' : c ≤ 1073741824) : wh c 1500 ≤ wh c 0 := by unfold wh; omega

set_option maxHeartbeats 1000000 in
theorem windowMays_walk (c s p a b : Int) (w : World) (w0 : (Lit.int .i64 c).wf = true) (w1 : (Lit.int .i64 s).wf = true) (w2 : (Lit.int .i64 p).wf = true) (w3 : (Lit.int .i64 a).wf = true) (w4 : (Lit.int .i64 b).wf = true) :
    Calls Try.prog 7 #[.agg #[.int .i64 c, .int .i64 s, .int .i64 p], .int .i64 a, .int .i64 b] w fun e w' => e = .returned (.bool true) ∧ Below w.heap.size w w' := by
  clear w0 w1 w2 w3 w4
  have S0 := start1 w 35 #[.int .i64 c, .int .i64 s, .int .i64 p]
  by_cases hy : wh (max a b) 0 < wh c 1500
  · have hx : wh (min a b) 0 < wh c 1500 := Int.lt_of_le_of_lt (wh_mono _ _ (by omega)) hy
    have Hx := Lib.hid hx
    have Hy := Lib.hid hy
    clear hx hy
    rcases (by omega : c < 1500 ∨ (1500 ≤ c ∧ 1073741824 < c) ∨ (1500 ≤ c ∧ c ≤ 1073741824)) with hc | ⟨hc, hd⟩ | ⟨hc, hd⟩
    all_goals
      go_enter Try.func7, Try.ntmps7
      go_wp2_with fail
      refine (wshown_any _).mono ?_
      rintro e w1 ⟨rfl, hb1⟩
      have S1 := bk1_call hb1 S0
      clear hb1 S0
      have S1' := S1
      obtain ⟨⟨B1, z1⟩, l1, c1, f1⟩ := S1'
      go_wp2_with fail
      refine (may_yes _ _ _ _ _ Hy.out).mono ?_
      rintro e w2 ⟨rfl, hb2⟩
      have S2 := bk1_call hb2 S1
      clear hb2 S1
      clear B1 z1 l1 c1 f1
      have S2' := S2
      obtain ⟨⟨B2, z2⟩, l2, c2, f2⟩ := S2'
      go_wp2_with fail
      refine (may_yes _ _ _ _ _ Hx.out).mono ?_
      rintro e w3 ⟨rfl, hb3⟩
      have S3 := bk1_call hb3 S2
      clear hb3 S2
      clear B2 z2 l2 c2 f2
      have S3' := S3
      obtain ⟨⟨B3, z3⟩, l3, c3, f3⟩ := S3'
      go_wp2_with fail
      refine (may_yes _ _ _ _ _ (wh_zero c)).mono ?_
      rintro e w4 ⟨rfl, hb4⟩
      have S4 := bk1_call hb4 S3
      clear hb4 S3
      clear B3 z3 l3 c3 f3
      have S4' := S4
      obtain ⟨⟨B4, z4⟩, l4, c4, f4⟩ := S4'
      go_wp2_with fail
      refine (may_yes _ _ _ _ _ (wh_neg c)).mono ?_
      rintro e w5 ⟨rfl, hb5⟩
      have S5 := bk1_call hb5 S4
      clear hb5 S4
      clear B4 z4 l4 c4 f4
      have S5' := S5
      obtain ⟨⟨B5, z5⟩, l5, c5, f5⟩ := S5'
      go_wp2_with fail
    · go_ret
      exact ⟨rfl, B5⟩
    · go_ret
      exact ⟨rfl, B5⟩
    · skip
      refine (may_yes _ _ _ _ _ (wh_pred c hc hd)).mono ?_
      rintro e w6 ⟨rfl, hb6⟩
      have S6 := bk1_call hb6 S5
      clear hb6 S5
      clear B5 z5 l5 c5 f5
      have S6' := S6
      obtain ⟨⟨B6, z6⟩, l6, c6, f6⟩ := S6'
      go_wp2_with fail
      refine (may_no _ _ _ _ _ (wh_self c hc hd)).mono ?_
      rintro e w7 ⟨rfl, hb7⟩
      have S7 := bk1_call hb7 S6
      clear hb7 S6
      clear B6 z6 l6 c6 f6
      have S7' := S7
      obtain ⟨⟨B7, z7⟩, l7, c7, f7⟩ := S7'
      go_wp2_with fail
      go_ret
      exact ⟨rfl, B7⟩
  · have Hy := Lib.hid hy
    clear hy
    rcases (by omega : c < 1500 ∨ (1500 ≤ c ∧ 1073741824 < c) ∨ (1500 ≤ c ∧ c ≤ 1073741824)) with hc | ⟨hc, hd⟩ | ⟨hc, hd⟩
    all_goals
      go_enter Try.func7, Try.ntmps7
      go_wp2_with fail
      refine (wshown_any _).mono ?_
      rintro e w1 ⟨rfl, hb1⟩
      have S1 := bk1_call hb1 S0
      clear hb1 S0
      have S1' := S1
      obtain ⟨⟨B1, z1⟩, l1, c1, f1⟩ := S1'
      go_wp2_with fail
      refine (may_no _ _ _ _ _ Hy.out).mono ?_
      rintro e w2 ⟨rfl, hb2⟩
      have S2 := bk1_call hb2 S1
      clear hb2 S1
      clear B1 z1 l1 c1 f1
      have S2' := S2
      obtain ⟨⟨B2, z2⟩, l2, c2, f2⟩ := S2'
      go_wp2_with fail
      refine (may_yes _ _ _ _ _ (wh_zero c)).mono ?_
      rintro e w3 ⟨rfl, hb3⟩
      have S3 := bk1_call hb3 S2
      clear hb3 S2
      clear B2 z2 l2 c2 f2
      have S3' := S3
      obtain ⟨⟨B3, z3⟩, l3, c3, f3⟩ := S3'
      go_wp2_with fail
      refine (may_yes _ _ _ _ _ (wh_neg c)).mono ?_
      rintro e w4 ⟨rfl, hb4⟩
      have S4 := bk1_call hb4 S3
      clear hb4 S3
      clear B3 z3 l3 c3 f3
      have S4' := S4
      obtain ⟨⟨B4, z4⟩, l4, c4, f4⟩ := S4'
      go_wp2_with fail
    · go_ret
      exact ⟨rfl, B4⟩
    · go_ret
      exact ⟨rfl, B4⟩
    · skip
      refine (may_yes _ _ _ _ _ (wh_pred c hc hd)).mono ?_
      rintro e w5 ⟨rfl, hb5⟩
      have S5 := bk1_call hb5 S4
      clear hb5 S4
      clear B4 z4 l4 c4 f4
      have S5' := S5
      obtain ⟨⟨B5, z5⟩, l5, c5, f5⟩ := S5'
      go_wp2_with fail
      refine (may_no _ _ _ _ _ (wh_self c hc hd)).mono ?_
      rintro e w6 ⟨rfl, hb6⟩
      have S6 := bk1_call hb6 S5
      clear hb6 S5
      clear B5 z5 l5 c5 f5
      have S6' := S6
      obtain ⟨⟨B6, z6⟩, l6, c6, f6⟩ := S6'
      go_wp2_with fail
      go_ret
      exact ⟨rfl, B6⟩
end Go.Proofs.Ytecgfhkdpphhcaa
