/- What 'Acked' of the package window computes. -/
import Derived.Test.YtecgfhkdpphhcaaWin
namespace Go.Proofs.Ytecgfhkdpphhcaa
open Go.RowKit
open Go.Proofs.Ytecgfhkdpphhcaa.Win
set_option linter.unusedVariables false

theorem ak_ret {c c' s p p' : Int} (h1 : c = c') (h2 : p = p') : Ending.returned (.agg #[.int .i64 c, .int .i64 s, .int .i64 p]) = .returned (.agg #[.int .i64 c', .int .i64 s, .int .i64 p']) := by rw [h1, h2]

set_option maxHeartbeats 1000000 in
theorem acked1_any (c s p b o : Int) (mv : Bool) (bo bm bb : Nat) (w : World) (c0 : 1500 ≤ c) (c1 : c ≤ 1073741824) (s0 : 0 ≤ s) (s1 : s ≤ 1073741824) (p0 : 0 ≤ p) (p1 : p ≤ 1073741824)
    (b0 : 0 ≤ b) (b1 : b ≤ 1073741824) (o0 : 0 ≤ o) (o1 : o ≤ 1073741824) (lo : bo < w.heap.size) (lm : bm < w.heap.size) (lb : bb < w.heap.size)
    (ho : w.cell? ⟨bo, 0, none⟩ = some (.int .i64 o)) (hm : w.cell? ⟨bm, 0, none⟩ = some (.bool mv)) (hb : w.cell? ⟨bb, 0, none⟩ = some (.int .i64 b)) :
    Calls Try.prog 30 #[.agg #[.int .i64 c, .int .i64 s, .int .i64 p], .pointer (some ⟨bo, 0, none⟩), .pointer (some ⟨bm, 0, none⟩), .pointer (some ⟨bb, 0, none⟩)] w fun e w' =>
      e = .returned (.agg #[.int .i64 (akC c s p b o mv), .int .i64 s, .int .i64 (akP c s p b o mv)]) ∧ Below w.heap.size w w' := by
  cases mv
  · go_enter Try.func30, Try.ntmps30
    go_wp2
    exact bodyPost_ret (v := .agg #[.int .i64 c, .int .i64 s, .int .i64 p]) (by simp [results, Try.results30, go_sem]) rfl ⟨by rw [akC_f, akP_f], by (repeat (first | with_reducible exact Below.refl _ _ | with_reducible assumption | with_reducible refine below_drewN ?_ _ | with_reducible refine Below.drew ?_ | with_reducible refine Below.alloc ?_ ?_ _ | with_reducible refine Below.setCell ?_ ?_ _ | with_reducible refine bel_call ?_ (by with_reducible assumption) ?_ | (show (_ : Nat) ≤ _; first | omega | (simp <;> omega))))⟩
  · by_cases h1 : c ≤ s
    · by_cases h2 : c ≤ o
      · go_enter Try.func30, Try.ntmps30
        go_wp2
        exact bodyPost_ret (v := .agg #[.int .i64 (c + min b 1500), .int .i64 s, .int .i64 0]) (by simp [results, Try.results30, go_sem]) rfl ⟨ak_ret (by rw [akC_t]; (repeat' split) <;> omega) (by rw [akP_t]; (repeat' split) <;> omega), by (repeat (first | with_reducible exact Below.refl _ _ | with_reducible assumption | with_reducible refine below_drewN ?_ _ | with_reducible refine Below.drew ?_ | with_reducible refine Below.alloc ?_ ?_ _ | with_reducible refine Below.setCell ?_ ?_ _ | with_reducible refine bel_call ?_ (by with_reducible assumption) ?_ | (show (_ : Nat) ≤ _; first | omega | (simp <;> omega))))⟩
      · go_enter Try.func30, Try.ntmps30
        go_wp2
        exact bodyPost_ret (v := .agg #[.int .i64 c, .int .i64 s, .int .i64 0]) (by simp [results, Try.results30, go_sem]) rfl ⟨ak_ret (by rw [akC_t]; (repeat' split) <;> omega) (by rw [akP_t]; (repeat' split) <;> omega), by (repeat (first | with_reducible exact Below.refl _ _ | with_reducible assumption | with_reducible refine below_drewN ?_ _ | with_reducible refine Below.drew ?_ | with_reducible refine Below.alloc ?_ ?_ _ | with_reducible refine Below.setCell ?_ ?_ _ | with_reducible refine bel_call ?_ (by with_reducible assumption) ?_ | (show (_ : Nat) ≤ _; first | omega | (simp <;> omega))))⟩
    · by_cases h3 : c ≤ o ∧ c ≤ p + b
      · obtain ⟨h4, h5⟩ := h3
        cases h2 : (b == o)
        · have h2' : b ≠ o := by simpa using h2
          have HH := Lib.hid h2'
          clear h2'
          go_enter Try.func30, Try.ntmps30
          go_wp2
          exact bodyPost_ret (v := .agg #[.int .i64 (c + 1500), .int .i64 s, .int .i64 (p + b - c)]) (by simp [results, Try.results30, go_sem]) rfl ⟨ak_ret (by rw [akC_t]; have := HH.out; (repeat' split) <;> omega) (by rw [akP_t]; have := HH.out; (repeat' split) <;> omega), by (repeat (first | with_reducible exact Below.refl _ _ | with_reducible assumption | with_reducible refine below_drewN ?_ _ | with_reducible refine Below.drew ?_ | with_reducible refine Below.alloc ?_ ?_ _ | with_reducible refine Below.setCell ?_ ?_ _ | with_reducible refine bel_call ?_ (by with_reducible assumption) ?_ | (show (_ : Nat) ≤ _; first | omega | (simp <;> omega))))⟩
        · have h2' : b = o := by simpa using h2
          have HH := Lib.hid h2'
          clear h2'
          go_enter Try.func30, Try.ntmps30
          go_wp2
          exact bodyPost_ret (v := .agg #[.int .i64 (c + 1500), .int .i64 s, .int .i64 0]) (by simp [results, Try.results30, go_sem]) rfl ⟨ak_ret (by rw [akC_t]; have := HH.out; (repeat' split) <;> omega) (by rw [akP_t]; have := HH.out; (repeat' split) <;> omega), by (repeat (first | with_reducible exact Below.refl _ _ | with_reducible assumption | with_reducible refine below_drewN ?_ _ | with_reducible refine Below.drew ?_ | with_reducible refine Below.alloc ?_ ?_ _ | with_reducible refine Below.setCell ?_ ?_ _ | with_reducible refine bel_call ?_ (by with_reducible assumption) ?_ | (show (_ : Nat) ≤ _; first | omega | (simp <;> omega))))⟩
      · cases h2 : (b == o)
        · have h2' : b ≠ o := by simpa using h2
          have HH := Lib.hid h2'
          have H3 := Lib.hid h3
          clear h2' h3
          by_cases h4 : c ≤ o
          · have h5 : ¬ c ≤ p + b := by have := H3.out; omega
            go_enter Try.func30, Try.ntmps30
            go_wp2
            exact bodyPost_ret (v := .agg #[.int .i64 c, .int .i64 s, .int .i64 (p + b)]) (by simp [results, Try.results30, go_sem]) rfl ⟨ak_ret (by rw [akC_t]; have := HH.out; have := H3.out; (repeat' split) <;> omega) (by rw [akP_t]; have := HH.out; have := H3.out; (repeat' split) <;> omega), by (repeat (first | with_reducible exact Below.refl _ _ | with_reducible assumption | with_reducible refine below_drewN ?_ _ | with_reducible refine Below.drew ?_ | with_reducible refine Below.alloc ?_ ?_ _ | with_reducible refine Below.setCell ?_ ?_ _ | with_reducible refine bel_call ?_ (by with_reducible assumption) ?_ | (show (_ : Nat) ≤ _; first | omega | (simp <;> omega))))⟩
          · go_enter Try.func30, Try.ntmps30
            go_wp2
            exact bodyPost_ret (v := .agg #[.int .i64 c, .int .i64 s, .int .i64 (p + b)]) (by simp [results, Try.results30, go_sem]) rfl ⟨ak_ret (by rw [akC_t]; have := HH.out; have := H3.out; (repeat' split) <;> omega) (by rw [akP_t]; have := HH.out; have := H3.out; (repeat' split) <;> omega), by (repeat (first | with_reducible exact Below.refl _ _ | with_reducible assumption | with_reducible refine below_drewN ?_ _ | with_reducible refine Below.drew ?_ | with_reducible refine Below.alloc ?_ ?_ _ | with_reducible refine Below.setCell ?_ ?_ _ | with_reducible refine bel_call ?_ (by with_reducible assumption) ?_ | (show (_ : Nat) ≤ _; first | omega | (simp <;> omega))))⟩
        · have h2' : b = o := by simpa using h2
          have HH := Lib.hid h2'
          have H3 := Lib.hid h3
          clear h2' h3
          by_cases h4 : c ≤ o
          · have h5 : ¬ c ≤ p + b := by have := H3.out; omega
            go_enter Try.func30, Try.ntmps30
            go_wp2
            exact bodyPost_ret (v := .agg #[.int .i64 c, .int .i64 s, .int .i64 0]) (by simp [results, Try.results30, go_sem]) rfl ⟨ak_ret (by rw [akC_t]; have := HH.out; have := H3.out; (repeat' split) <;> omega) (by rw [akP_t]; have := HH.out; have := H3.out; (repeat' split) <;> omega), by (repeat (first | with_reducible exact Below.refl _ _ | with_reducible assumption | with_reducible refine below_drewN ?_ _ | with_reducible refine Below.drew ?_ | with_reducible refine Below.alloc ?_ ?_ _ | with_reducible refine Below.setCell ?_ ?_ _ | with_reducible refine bel_call ?_ (by with_reducible assumption) ?_ | (show (_ : Nat) ≤ _; first | omega | (simp <;> omega))))⟩
          · go_enter Try.func30, Try.ntmps30
            go_wp2
            exact bodyPost_ret (v := .agg #[.int .i64 c, .int .i64 s, .int .i64 0]) (by simp [results, Try.results30, go_sem]) rfl ⟨ak_ret (by rw [akC_t]; have := HH.out; have := H3.out; (repeat' split) <;> omega) (by rw [akP_t]; have := HH.out; have := H3.out; (repeat' split) <;> omega), by (repeat (first | with_reducible exact Below.refl _ _ | with_reducible assumption | with_reducible refine below_drewN ?_ _ | with_reducible refine Below.drew ?_ | with_reducible refine Below.alloc ?_ ?_ _ | with_reducible refine Below.setCell ?_ ?_ _ | with_reducible refine bel_call ?_ (by with_reducible assumption) ?_ | (show (_ : Nat) ≤ _; first | omega | (simp <;> omega))))⟩

theorem acked_change (c s p b o : Int) (mv : Bool) (bo bm bb : Nat) (w : World) (b0 : 0 ≤ b) (b1 : b ≤ 1073741824) (o0 : 0 ≤ o) (o1 : o ≤ 1073741824)
    (lo : bo < w.heap.size) (lm : bm < w.heap.size) (lb : bb < w.heap.size)
    (ho : w.cell? ⟨bo, 0, none⟩ = some (.int .i64 o)) (hm : w.cell? ⟨bm, 0, none⟩ = some (.bool mv)) (hb : w.cell? ⟨bb, 0, none⟩ = some (.int .i64 b)) :
    Calls Try.prog 29 #[.agg #[.int .i64 c, .int .i64 s, .int .i64 p], .func (.func 30) #[] #[.pointer (some ⟨bo, 0, none⟩), .pointer (some ⟨bm, 0, none⟩), .pointer (some ⟨bb, 0, none⟩)]] w fun e w' =>
      e = .returned (.agg #[.int .i64 (wh (akC (wh c 1500) (wh s 0) (wh p 0) b o mv) 1500), .int .i64 (wh s 0), .int .i64 (wh (akP (wh c 1500) (wh s 0) (wh p 0) b o mv) 0)]) ∧ Below w.heap.size w w' := by
  have h := change_of c s p (akC (wh c 1500) (wh s 0) (wh p 0) b o mv) (wh s 0) (akP (wh c 1500) (wh s 0) (wh p 0) b o mv) 30
    #[.pointer (some ⟨bo, 0, none⟩), .pointer (some ⟨bm, 0, none⟩), .pointer (some ⟨bb, 0, none⟩)] w ent_acked
    (fun X hX hz => acked1_any _ _ _ _ _ _ bo bm bb X (wh_lo _ _) (wh_hi _ _ (by omega)) (wh_lo _ _) (wh_hi _ _ (by omega)) (wh_lo _ _) (wh_hi _ _ (by omega)) b0 b1 o0 o1 (by omega) (by omega) (by omega)
      ((hX.cell (p := ⟨bo, 0, none⟩) lo).trans ho) ((hX.cell (p := ⟨bm, 0, none⟩) lm).trans hm) ((hX.cell (p := ⟨bb, 0, none⟩) lb).trans hb))
  rw [show wh (wh s 0) 0 = wh s 0 from wh_id _ _ (wh_lo _ _) (wh_hi _ _ (by omega))] at h
  exact h

set_option maxHeartbeats 1000000 in
theorem acked_any (c s p b o : Int) (mv : Bool) (w : World) :
    Calls Try.prog 19 #[.agg #[.int .i64 c, .int .i64 s, .int .i64 p], .int .i64 b, .int .i64 o, .bool mv] w fun e w' =>
      e = .returned (.agg #[.int .i64 (wh (akC (wh c 1500) (wh s 0) (wh p 0) (wh b 0) (wh o 0) mv) 1500), .int .i64 (wh s 0), .int .i64 (wh (akP (wh c 1500) (wh s 0) (wh p 0) (wh b 0) (wh o 0) mv) 0)]) ∧ Below w.heap.size w w' := by
  go_enter Try.func19, Try.ntmps19
  go_wp2_with fail
  go_region_law ((go_simp; go_at_call 27; refine (whold_any _ _ _).mono ?_; rintro e w6 ⟨rfl, rfl⟩))
  all_goals
    have b0 := wh_lo b 0
    have b1 := wh_hi b 0 (by omega)
    have o0 := wh_lo o 0
    have o1 := wh_hi o 0 (by omega)
    go_wp2_with fail
    refine (acked_change c s p (wh b 0) (wh o 0) mv _ _ _ _ b0 b1 o0 o1 (by simp <;> omega) (by simp <;> omega) (by simp <;> omega) (by go_simp) (by go_simp) (by go_simp)).mono ?_
    rintro e w1 ⟨rfl, hb1⟩
    obtain ⟨q1, q2⟩ := bblk (w.heap.size + 1 + 1 + 1 + 1) hb1 (by simp)
    have z1 : w.heap.size + 4 < w1.heap.size := by have := hb1.size; simp at this; omega
    go_wp2
    exact bodyPost_ret (v := .agg #[.int .i64 (wh (akC (wh c 1500) (wh s 0) (wh p 0) (wh b 0) (wh o 0) mv) 1500), .int .i64 (wh s 0), .int .i64 (wh (akP (wh c 1500) (wh s 0) (wh p 0) (wh b 0) (wh o 0) mv) 0)])
      (by simp [results, Try.results19, go_sem, q1]) rfl ⟨rfl, by (repeat (first | with_reducible exact Below.refl _ _ | with_reducible assumption | with_reducible refine below_drewN ?_ _ | with_reducible refine Below.drew ?_ | with_reducible refine Below.alloc ?_ ?_ _ | with_reducible refine Below.setCell ?_ ?_ _ | with_reducible refine bel_call ?_ (by with_reducible assumption) ?_ | (show (_ : Nat) ≤ _; first | omega | (simp <;> omega))))⟩
end Go.Proofs.Ytecgfhkdpphhcaa
