/- What the functions of the package window compute: one contract a function. -/
import Derived.Test.YtecgfhkdpphhcaaRows
import Derived.Test.YtecgfhkdpphhcaaKit
import Derived.Test.YtecgfhkdpphhcaaWinFn
import Derived.Deep.RegionHeld3
import Derived.Deep.RegionLaw
namespace Go.Proofs.Ytecgfhkdpphhcaa
open Go.RowKit
open Go.Proofs.Ytecgfhkdpphhcaa.Win
set_option linter.unusedVariables false

theorem whold_any (n least : Int) (w : World) :
    Calls Try.prog 27 #[.int .i64 n, .int .i64 least] w fun e w' => e = .returned (.int .i64 (wh n least)) ∧ w = w' := by
  go_enter Try.func27, Try.ntmps27
  go_wp2
  go_ret
  exact ⟨rfl, rfl⟩

theorem made_any (c s p : Int) (w : World) :
    Calls Try.prog 28 #[.agg #[.int .i64 c, .int .i64 s, .int .i64 p]] w fun e w' =>
      e = .returned (.agg #[.int .i64 (wh c 1500), .int .i64 (wh s 0), .int .i64 (wh p 0)]) ∧ Below w.heap.size w w' := by
  go_enter Try.func28, Try.ntmps28
  go_wp2_with fail
  go_region_held3 (fun w' => (w'.cell? ⟨w.heap.size, 0, none⟩ = some (.int .i64 c) ∧ w'.cell? ⟨w.heap.size, 1, none⟩ = some (.int .i64 s) ∧ w'.cell? ⟨w.heap.size, 2, none⟩ = some (.int .i64 p)))
    (first | go_keep | assumption)
    ((go_simp; go_at_call 27; refine (whold_any _ _ _).mono ?_; rintro e w5 ⟨rfl, rfl⟩))
  go_wp2
  exact bodyPost_ret (v := .agg #[.int .i64 (wh c 1500), .int .i64 (wh s 0), .int .i64 (wh p 0)]) (by simp [results, Try.results28, go_sem]) rfl ⟨rfl, by (repeat (first | with_reducible exact Below.refl _ _ | with_reducible assumption | with_reducible refine below_drewN ?_ _ | with_reducible refine Below.drew ?_ | with_reducible refine Below.alloc ?_ ?_ _ | with_reducible refine Below.setCell ?_ ?_ _ | with_reducible refine bel_call ?_ (by with_reducible assumption) ?_ | (show (_ : Nat) ≤ _; first | omega | (simp <;> omega))))⟩

theorem wfield0 (x y z : Value) (w : World) : (Instr.field 35 (.agg #[x, y, z]) 0).run Try.prog w = .ok x w := by kernel_rfl
attribute [local go_sem] wfield0

theorem half_any (c s p : Int) (w : World) :
    Calls Try.prog 34 #[.agg #[.int .i64 c, .int .i64 s, .int .i64 p]] w fun e w' => e = .returned (.int .i64 (half c)) ∧ Below w.heap.size w w' := by
  have h1 := wh_lo c 1500
  have h2 := wh_hi c 1500 (by omega)
  go_enter Try.func34, Try.ntmps34
  go_wp2_with fail
  refine (made_any _ _ _ _).mono ?_
  rintro e w1 ⟨rfl, hb1⟩
  have B1 : Below w.heap.size w w1 := by (repeat (first | with_reducible exact Below.refl _ _ | with_reducible assumption | with_reducible refine below_drewN ?_ _ | with_reducible refine Below.drew ?_ | with_reducible refine Below.alloc ?_ ?_ _ | with_reducible refine Below.setCell ?_ ?_ _ | with_reducible refine bel_call ?_ (by with_reducible assumption) ?_ | (show (_ : Nat) ≤ _; first | omega | (simp <;> omega))))
  go_wp2
  go_ret
  exact ⟨rfl, B1⟩

theorem wnew_any (n : Int) (w : World) :
    Calls Try.prog 21 #[.int .i64 n] w fun e w' => e = .returned (.agg #[.int .i64 4500, .int .i64 (wh n 0), .int .i64 0]) ∧ Below w.heap.size w w' := by
  go_enter Try.func21, Try.ntmps21
  go_wp2_with fail
  refine (whold_any _ _ _).mono ?_
  rintro e w1 ⟨rfl, rfl⟩
  go_wp2
  exact bodyPost_ret (v := .agg #[.int .i64 4500, .int .i64 (wh n 0), .int .i64 0]) (by simp [results, Try.results21, go_sem]) rfl ⟨rfl, by (repeat (first | with_reducible exact Below.refl _ _ | with_reducible assumption | with_reducible refine below_drewN ?_ _ | with_reducible refine Below.drew ?_ | with_reducible refine Below.alloc ?_ ?_ _ | with_reducible refine Below.setCell ?_ ?_ _ | with_reducible refine bel_call ?_ (by with_reducible assumption) ?_ | (show (_ : Nat) ≤ _; first | omega | (simp <;> omega))))⟩

theorem may_any (c s p n : Int) (w : World) :
    Calls Try.prog 18 #[.agg #[.int .i64 c, .int .i64 s, .int .i64 p], .int .i64 n] w fun e w' => e = .returned (.bool (decide (wh n 0 < wh c 1500))) ∧ Below w.heap.size w w' := by
  go_enter Try.func18, Try.ntmps18
  go_wp2_with fail
  go_region_held3 (fun w' => (w'.cell? ⟨w.heap.size, 0, none⟩ = some (.int .i64 c) ∧ w'.cell? ⟨w.heap.size, 1, none⟩ = some (.int .i64 s) ∧ w'.cell? ⟨w.heap.size, 2, none⟩ = some (.int .i64 p)))
    (first | go_keep | assumption)
    ((first
      | (go_simp; go_at_call 27; refine (whold_any _ _ _).mono ?_; rintro e w5 ⟨rfl, rfl⟩)
      | (go_simp; go_at_call 28; refine (made_any _ _ _ _).mono ?_; rintro e w6 ⟨rfl, hb6⟩
         have S6 : w6.cell? ⟨w.heap.size, 0, none⟩ = some (.int .i64 c) ∧ w6.cell? ⟨w.heap.size, 1, none⟩ = some (.int .i64 s) ∧ w6.cell? ⟨w.heap.size, 2, none⟩ = some (.int .i64 p) :=
           ⟨(hb6.cell (p := ⟨_, 0, none⟩) (by simp)).trans (by go_simp), (hb6.cell (p := ⟨_, 1, none⟩) (by simp)).trans (by go_simp), (hb6.cell (p := ⟨_, 2, none⟩) (by simp)).trans (by go_simp)⟩
         have B6 : Below w.heap.size w w6 := by (repeat (first | with_reducible exact Below.refl _ _ | with_reducible assumption | with_reducible refine below_drewN ?_ _ | with_reducible refine Below.drew ?_ | with_reducible refine Below.alloc ?_ ?_ _ | with_reducible refine Below.setCell ?_ ?_ _ | with_reducible refine bel_call ?_ (by with_reducible assumption) ?_ | (show (_ : Nat) ≤ _; first | omega | (simp <;> omega)))))))
  go_wp2
  go_ret
  exact ⟨rfl, B6⟩

theorem slow_any (c s p : Int) (w : World) :
    Calls Try.prog 20 #[.agg #[.int .i64 c, .int .i64 s, .int .i64 p]] w fun e w' => e = .returned (.bool (decide (wh c 1500 ≤ wh s 0))) ∧ Below w.heap.size w w' := by
  have t0 := Whole.new w 35 #[.int .i64 c, .int .i64 s, .int .i64 p]
  go_enter Try.func20, Try.ntmps20
  go_wp2_with fail
  refine (made_any _ _ _ _).mono ?_
  rintro e w1 ⟨rfl, hb1⟩
  have t1 := t0.call hb1
  have B1 : Below w.heap.size w w1 := by (repeat (first | with_reducible exact Below.refl _ _ | with_reducible assumption | with_reducible refine below_drewN ?_ _ | with_reducible refine Below.drew ?_ | with_reducible refine Below.alloc ?_ ?_ _ | with_reducible refine Below.setCell ?_ ?_ _ | with_reducible refine bel_call ?_ (by with_reducible assumption) ?_ | (show (_ : Nat) ≤ _; first | omega | (simp <;> omega))))
  have l1 := t1.lt
  clear t0 hb1
  obtain ⟨c1, f1⟩ := t1.reads
  go_wp2
  go_ret
  exact ⟨rfl, by (repeat (first | with_reducible exact Below.refl _ _ | with_reducible assumption | with_reducible refine below_drewN ?_ _ | with_reducible refine Below.drew ?_ | with_reducible refine Below.alloc ?_ ?_ _ | with_reducible refine Below.setCell ?_ ?_ _ | with_reducible refine bel_call ?_ (by with_reducible assumption) ?_ | (show (_ : Nat) ≤ _; first | omega | (simp <;> omega))))⟩

theorem wlost_any (c s p : Int) (w : World) :
    Calls Try.prog 31 #[.agg #[.int .i64 c, .int .i64 s, .int .i64 p]] w fun e w' =>
      e = .returned (.agg #[.int .i64 (half c), .int .i64 (half c), .int .i64 0]) ∧ Below w.heap.size w w' := by
  have S0 := start2 w 35 35 #[.int .i64 c, .int .i64 s, .int .i64 p] #[.int .i64 0, .int .i64 0, .int .i64 0]
  go_enter Try.func31, Try.ntmps31
  go_wp2_with fail
  go_region_held3 (fun w' => ∀ o, w'.cell? ⟨w.heap.size, o, none⟩ = (#[.int .i64 c, .int .i64 s, .int .i64 p] : Array Value)[o]?)
    (first | go_keep | assumption)
    ((first
      | (go_simp; go_at_call 34; refine (half_any _ _ _ _).mono ?_; rintro e w6 ⟨rfl, hb6⟩
         have T6 := bk2_call hb6 (by first | assumption | exact bk2_drew S0)
         have T6' := T6
         obtain ⟨⟨B6, z6⟩, ⟨p1, p2, p3⟩, ⟨q1, q2, q3⟩⟩ := T6')))
  go_wp2
  exact bodyPost_ret (v := .agg #[.int .i64 (half c), .int .i64 (half c), .int .i64 0]) (by simp [results, Try.results31, go_sem, q2]) rfl ⟨rfl, by (repeat (first | with_reducible exact Below.refl _ _ | with_reducible assumption | with_reducible refine below_drewN ?_ _ | with_reducible refine Below.drew ?_ | with_reducible refine Below.alloc ?_ ?_ _ | with_reducible refine Below.setCell ?_ ?_ _ | with_reducible refine bel_call ?_ (by with_reducible assumption) ?_ | (show (_ : Nat) ≤ _; first | omega | (simp <;> omega))))⟩

theorem wtimeout_any (c s p : Int) (w : World) :
    Calls Try.prog 32 #[.agg #[.int .i64 c, .int .i64 s, .int .i64 p]] w fun e w' =>
      e = .returned (.agg #[.int .i64 1500, .int .i64 (half c), .int .i64 0]) ∧ Below w.heap.size w w' := by
  have t1 := (Whole.new (w.alloc (.cells #[.int .i64 c, .int .i64 s, .int .i64 p] 35)) 35 #[.int .i64 0, .int .i64 0, .int .i64 0])
  rw [World.size_alloc] at t1
  go_enter Try.func32, Try.ntmps32
  go_wp2_with fail
  refine (half_any _ _ _ _).mono ?_
  rintro e w1 ⟨rfl, hb1⟩
  have t2 := t1.call hb1
  have B1 : Below w.heap.size w w1 := by (repeat (first | with_reducible exact Below.refl _ _ | with_reducible assumption | with_reducible refine below_drewN ?_ _ | with_reducible refine Below.drew ?_ | with_reducible refine Below.alloc ?_ ?_ _ | with_reducible refine Below.setCell ?_ ?_ _ | with_reducible refine bel_call ?_ (by with_reducible assumption) ?_ | (show (_ : Nat) ≤ _; first | omega | (simp <;> omega))))
  have l1 := t2.lt
  clear t1 hb1
  obtain ⟨c1, f1⟩ := t2.reads
  go_wp2
  exact bodyPost_ret (v := .agg #[.int .i64 1500, .int .i64 (half c), .int .i64 0]) (by simp [results, Try.results32, go_sem, c1]) rfl ⟨rfl, by (repeat (first | with_reducible exact Below.refl _ _ | with_reducible assumption | with_reducible refine below_drewN ?_ _ | with_reducible refine Below.drew ?_ | with_reducible refine Below.alloc ?_ ?_ _ | with_reducible refine Below.setCell ?_ ?_ _ | with_reducible refine bel_call ?_ (by with_reducible assumption) ?_ | (show (_ : Nat) ≤ _; first | omega | (simp <;> omega))))⟩

theorem widle_any (c s p : Int) (w : World) :
    Calls Try.prog 33 #[.agg #[.int .i64 c, .int .i64 s, .int .i64 p]] w fun e w' =>
      e = .returned (.agg #[.int .i64 (min c (half c)), .int .i64 s, .int .i64 p]) ∧ Below w.heap.size w w' := by
  have S0 := start2 w 35 35 #[.int .i64 c, .int .i64 s, .int .i64 p] #[.int .i64 0, .int .i64 0, .int .i64 0]
  go_enter Try.func33, Try.ntmps33
  go_wp2_with fail
  go_region_law ((go_simp; go_at_call 34; refine (half_any _ _ _ _).mono ?_; rintro e w6 ⟨rfl, hb6⟩
                  have T6 := bk2_call hb6 (by first | assumption | exact bk2_drew S0)
                  have T6' := T6
                  obtain ⟨⟨B6, z6⟩, ⟨p1, p2, p3⟩, ⟨q1, q2, q3⟩⟩ := T6'))
  all_goals go_wp2
  all_goals exact bodyPost_ret (v := .agg #[.int .i64 (min c (half c)), .int .i64 s, .int .i64 p]) (by simp [results, Try.results33, go_sem, q2]) rfl ⟨rfl, by (repeat (first | with_reducible exact Below.refl _ _ | with_reducible assumption | with_reducible refine below_drewN ?_ _ | with_reducible refine Below.drew ?_ | with_reducible refine Below.alloc ?_ ?_ _ | with_reducible refine Below.setCell ?_ ?_ _ | with_reducible refine bel_call ?_ (by with_reducible assumption) ?_ | (show (_ : Nat) ≤ _; first | omega | (simp <;> omega))))⟩

theorem change_of (c s p c' s' p' : Int) (fid : FuncId) (caps : Array Value) (w : World)
    (hent : ∀ (a : Array Value) (W : World), (callFunc fid a).run Try.prog W = .ok (.enter fid a) W)
    (hf : ∀ W, Below w.heap.size w W → w.heap.size ≤ W.heap.size → Calls Try.prog fid (#[.agg #[.int .i64 (wh c 1500), .int .i64 (wh s 0), .int .i64 (wh p 0)]] ++ caps) W fun e w' => e = .returned (.agg #[.int .i64 c', .int .i64 s', .int .i64 p']) ∧ Below W.heap.size W w') :
    Calls Try.prog 29 #[.agg #[.int .i64 c, .int .i64 s, .int .i64 p], .func (.func fid) #[] caps] w fun e w' =>
      e = .returned (.agg #[.int .i64 (wh c' 1500), .int .i64 (wh s' 0), .int .i64 (wh p' 0)]) ∧ Below w.heap.size w w' := by
  have HF := Lib.hid hf
  clear hf
  have S0 := start2 w 35 35 #[.int .i64 c, .int .i64 s, .int .i64 p] #[.int .i64 0, .int .i64 0, .int .i64 0]
  go_enter Try.func29, Try.ntmps29
  go_wp2_with fail
  refine (made_any _ _ _ _).mono ?_
  rintro e w1 ⟨rfl, hb1⟩
  obtain ⟨⟨B1, z1⟩, ⟨p1, p2, p3⟩, T1⟩ := bk2_call hb1 S0
  clear p2 p3 S0 hb1
  have T1' := T1
  obtain ⟨q1, q2, q3⟩ := T1'
  go_wp2_with fail
  refine (HF.out _ B1 z1).mono ?_
  rintro e w2 ⟨rfl, hb2⟩
  obtain ⟨⟨B2, z2⟩, T2⟩ := bk1_call hb2 ⟨⟨B1, z1⟩, T1⟩
  clear T1 B1 z1 p1 q1 q2 q3 hb2
  have T2' := T2
  obtain ⟨q1, q2, q3⟩ := T2'
  go_wp2_with fail
  refine (made_any _ _ _ _).mono ?_
  rintro e w3 ⟨rfl, hb3⟩
  obtain ⟨⟨B3, z3⟩, T3⟩ := bk1_call hb3 ⟨⟨B2, z2⟩, T2⟩
  clear T2 B2 z2 q1 q2 q3 hb3
  obtain ⟨q1, q2, q3⟩ := T3
  go_wp2
  exact bodyPost_ret (v := .agg #[.int .i64 (wh c' 1500), .int .i64 (wh s' 0), .int .i64 (wh p' 0)]) (by simp [results, Try.results29, go_sem, q2]) rfl ⟨rfl, by (repeat (first | with_reducible exact Below.refl _ _ | with_reducible assumption | with_reducible refine below_drewN ?_ _ | with_reducible refine Below.drew ?_ | with_reducible refine Below.alloc ?_ ?_ _ | with_reducible refine Below.setCell ?_ ?_ _ | with_reducible refine bel_call ?_ (by with_reducible assumption) ?_ | (show (_ : Nat) ≤ _; first | omega | (simp <;> omega))))⟩

theorem ent_lost (a : Array Value) (W : World) : (callFunc 31 a).run Try.prog W = .ok (.enter 31 a) W := by kernel_rfl
theorem ent_timeout (a : Array Value) (W : World) : (callFunc 32 a).run Try.prog W = .ok (.enter 32 a) W := by kernel_rfl
theorem ent_idle (a : Array Value) (W : World) : (callFunc 33 a).run Try.prog W = .ok (.enter 33 a) W := by kernel_rfl
theorem ent_acked (a : Array Value) (W : World) : (callFunc 30 a).run Try.prog W = .ok (.enter 30 a) W := by kernel_rfl

theorem lost_any (c s p : Int) (w : World) :
    Calls Try.prog 22 #[.agg #[.int .i64 c, .int .i64 s, .int .i64 p]] w fun e w' =>
      e = .returned (.agg #[.int .i64 (half (wh c 1500)), .int .i64 (half (wh c 1500)), .int .i64 0]) ∧ Below w.heap.size w w' := by
  have S0 := start2 w 35 35 #[.int .i64 c, .int .i64 s, .int .i64 p] #[.int .i64 0, .int .i64 0, .int .i64 0]
  have e1 := half_lo (wh c 1500)
  have e2 := half_hi (wh c 1500)
  have H := fun W => change_of c s p (half (wh c 1500)) (half (wh c 1500)) 0 31 #[] W ent_lost (fun X _ _ => wlost_any _ _ _ X)
  rw [wh_id _ 1500 (by omega) (by omega), wh_id (half (wh c 1500)) 0 (by omega) (by omega), wh_id 0 0 (by omega) (by omega)] at H
  have HH := Lib.hid H
  clear H e1 e2
  go_enter Try.func22, Try.ntmps22
  go_wp2_with fail
  refine (HH.out _).mono ?_
  rintro e w1 ⟨rfl, hb1⟩
  obtain ⟨⟨B1, z1⟩, ⟨p1, p2, p3⟩, ⟨q1, q2, q3⟩⟩ := bk2_call hb1 S0
  clear hb1 S0
  go_wp2
  exact bodyPost_ret (v := .agg #[.int .i64 (half (wh c 1500)), .int .i64 (half (wh c 1500)), .int .i64 0]) (by simp [results, Try.results22, go_sem, q2]) rfl ⟨rfl, by (repeat (first | with_reducible exact Below.refl _ _ | with_reducible assumption | with_reducible refine below_drewN ?_ _ | with_reducible refine Below.drew ?_ | with_reducible refine Below.alloc ?_ ?_ _ | with_reducible refine Below.setCell ?_ ?_ _ | with_reducible refine bel_call ?_ (by with_reducible assumption) ?_ | (show (_ : Nat) ≤ _; first | omega | (simp <;> omega))))⟩

theorem timeout_any (c s p : Int) (w : World) :
    Calls Try.prog 23 #[.agg #[.int .i64 c, .int .i64 s, .int .i64 p]] w fun e w' =>
      e = .returned (.agg #[.int .i64 1500, .int .i64 (half (wh c 1500)), .int .i64 0]) ∧ Below w.heap.size w w' := by
  have S0 := start2 w 35 35 #[.int .i64 c, .int .i64 s, .int .i64 p] #[.int .i64 0, .int .i64 0, .int .i64 0]
  have e1 := half_lo (wh c 1500)
  have e2 := half_hi (wh c 1500)
  have H := fun W => change_of c s p 1500 (half (wh c 1500)) 0 32 #[] W ent_timeout (fun X _ _ => wtimeout_any _ _ _ X)
  rw [wh_id 1500 1500 (by omega) (by omega), wh_id (half (wh c 1500)) 0 (by omega) (by omega), wh_id 0 0 (by omega) (by omega)] at H
  have HH := Lib.hid H
  clear H e1 e2
  go_enter Try.func23, Try.ntmps23
  go_wp2_with fail
  refine (HH.out _).mono ?_
  rintro e w1 ⟨rfl, hb1⟩
  obtain ⟨⟨B1, z1⟩, ⟨p1, p2, p3⟩, ⟨q1, q2, q3⟩⟩ := bk2_call hb1 S0
  clear hb1 S0
  go_wp2
  exact bodyPost_ret (v := .agg #[.int .i64 1500, .int .i64 (half (wh c 1500)), .int .i64 0]) (by simp [results, Try.results23, go_sem, q2]) rfl ⟨rfl, by (repeat (first | with_reducible exact Below.refl _ _ | with_reducible assumption | with_reducible refine below_drewN ?_ _ | with_reducible refine Below.drew ?_ | with_reducible refine Below.alloc ?_ ?_ _ | with_reducible refine Below.setCell ?_ ?_ _ | with_reducible refine bel_call ?_ (by with_reducible assumption) ?_ | (show (_ : Nat) ≤ _; first | omega | (simp <;> omega))))⟩

theorem idle_any (c s p : Int) (w : World) :
    Calls Try.prog 24 #[.agg #[.int .i64 c, .int .i64 s, .int .i64 p]] w fun e w' =>
      e = .returned (.agg #[.int .i64 (min (wh c 1500) (half (wh c 1500))), .int .i64 (wh s 0), .int .i64 (wh p 0)]) ∧ Below w.heap.size w w' := by
  have S0 := start2 w 35 35 #[.int .i64 c, .int .i64 s, .int .i64 p] #[.int .i64 0, .int .i64 0, .int .i64 0]
  have e1 := half_lo (wh c 1500)
  have e2 := half_hi (wh c 1500)
  have e3 := wh_lo c 1500
  have e4 := wh_lo s 0
  have e5 := wh_lo p 0
  have e6 := wh_hi s 0 (by omega)
  have e7 := wh_hi p 0 (by omega)
  have H := fun W => change_of c s p (min (wh c 1500) (half (wh c 1500))) (wh s 0) (wh p 0) 33 #[] W ent_idle (fun X _ _ => widle_any _ _ _ X)
  rw [wh_id (min (wh c 1500) (half (wh c 1500))) 1500 (by omega) (by omega), wh_id (wh s 0) 0 (by omega) (by omega), wh_id (wh p 0) 0 (by omega) (by omega)] at H
  have HH := Lib.hid H
  clear H e1 e2 e3 e4 e5 e6 e7
  go_enter Try.func24, Try.ntmps24
  go_wp2_with fail
  refine (HH.out _).mono ?_
  rintro e w1 ⟨rfl, hb1⟩
  obtain ⟨⟨B1, z1⟩, ⟨p1, p2, p3⟩, ⟨q1, q2, q3⟩⟩ := bk2_call hb1 S0
  clear hb1 S0
  go_wp2
  exact bodyPost_ret (v := .agg #[.int .i64 (min (wh c 1500) (half (wh c 1500))), .int .i64 (wh s 0), .int .i64 (wh p 0)]) (by simp [results, Try.results24, go_sem, q2]) rfl ⟨rfl, by (repeat (first | with_reducible exact Below.refl _ _ | with_reducible assumption | with_reducible refine below_drewN ?_ _ | with_reducible refine Below.drew ?_ | with_reducible refine Below.alloc ?_ ?_ _ | with_reducible refine Below.setCell ?_ ?_ _ | with_reducible refine bel_call ?_ (by with_reducible assumption) ?_ | (show (_ : Nat) ≤ _; first | omega | (simp <;> omega))))⟩
end Go.Proofs.Ytecgfhkdpphhcaa
