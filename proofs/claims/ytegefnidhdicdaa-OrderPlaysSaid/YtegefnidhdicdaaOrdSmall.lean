/- 'New', 'Waits', 'Bytes' of the package order, and 'pick' of its laws: one contract a function. -/
import Derived.Test.YtegefnidhdicdaaOrdPut
import Derived.Laws.OwnMore
namespace Go.Proofs.Ytegefnidhdicdaa
open Go.RowKit
set_option linter.unusedVariables false

/-- How many wait for a stream. -/
def waitsF (s : Int) (xs : List Msg) : Nat := xs.countP (fun m => m.stream == s)
theorem waitsF_step {s : Int} {xs : List Msg} {k : Nat} {m : Msg} (hm : xs[k]? = some m) : waitsF s (xs.take (k + 1)) = waitsF s (xs.take k) + (if m.stream = s then 1 else 0) := by
  unfold waitsF
  rw [List.take_add_one, hm, List.countP_append]
  by_cases h : m.stream = s <;> simp [h]
theorem waitsF_le (s : Int) (xs : List Msg) (k : Nat) : waitsF s (xs.take k) ≤ k := by
  unfold waitsF
  have := List.countP_le_length (p := fun m : Msg => m.stream == s) (l := xs.take k)
  rw [List.length_take] at this
  omega

set_option maxHeartbeats 1000000 in
theorem waits_any (vN : Value) (hvN : vN.oneCell' = true) (A : Option Addr) (n c : Nat) (xs : List Msg) (s : Int) (w : World) (hL : Ms w w.heap.size A n xs) (hr : ∀ m ∈ xs, 0 ≤ m.stream ∧ m.stream ≤ 65535) :
    Calls Try.prog 13 #[.agg #[vN, .slice A n c], .int .i64 s] w fun e w' => e = .returned (.int .i64 (waitsF s xs)) ∧ Below w.heap.size w w' := by
  have HM := hL.most
  unfold maxLen at HM
  have Hr := Lib.hid hr
  clear hr
  go_enter Try.func13, Try.ntmps13
  go_wp2_with fail
  go_loopw [5, 11] (fun vn i wr => ∃ k : Nat, k ≤ n ∧ i = .int .i64 k ∧ vn = .int .i64 (waitsF s (xs.take k)) ∧ Below w.heap.size w wr) (fun _ i _ => n - (intOf i).toNat)
  case atStart => exact ⟨0, by omega, rfl, by simp [waitsF], by (repeat (first | with_reducible exact Below.refl _ _ | with_reducible assumption | with_reducible refine below_drewN ?_ _ | with_reducible refine Below.drew ?_ | with_reducible refine Below.alloc ?_ ?_ _ | with_reducible refine Below.setCell ?_ ?_ _ | with_reducible refine bel_call ?_ (by with_reducible assumption) ?_ | (show (_ : Nat) ≤ _; first | omega | (simp <;> omega))))⟩
  case round =>
    obtain ⟨k, hk, rfl, rfl, bw⟩ := hrel
    have zw := bw.size
    have hle := waitsF_le s xs k
    by_cases hlt : k < n
    · obtain ⟨b, off, m, rfl, hb, hm, d0, d1, d2, d3, d4, d5⟩ := msg_at (hL.call bw (Nat.le_refl _)) hlt
      have hst := waitsF_step (s := s) hm
      obtain ⟨r0, r1⟩ := Hr.out m (List.mem_of_getElem? hm)
      have HS := Lib.hid hst
      clear hm hst hL
      by_cases hs : m.stream = s
      · go_wp2
        go_roundw
        case rel => exact ⟨k + 1, by omega, by go_num, by rw [HS.out, if_pos hs]; go_num, by (repeat (first | with_reducible exact Below.refl _ _ | with_reducible assumption | with_reducible refine below_drewN ?_ _ | with_reducible refine Below.drew ?_ | with_reducible refine Below.alloc ?_ ?_ _ | with_reducible refine Below.setCell ?_ ?_ _ | with_reducible refine bel_call ?_ (by with_reducible assumption) ?_ | (show (_ : Nat) ≤ _; first | omega | (simp <;> omega))))⟩
        case measure => simp [intOf]; omega
      · go_wp2
        go_roundw
        case rel => exact ⟨k + 1, by omega, by go_num, by rw [HS.out, if_neg hs]; go_num, by (repeat (first | with_reducible exact Below.refl _ _ | with_reducible assumption | with_reducible refine below_drewN ?_ _ | with_reducible refine Below.drew ?_ | with_reducible refine Below.alloc ?_ ?_ _ | with_reducible refine Below.setCell ?_ ?_ _ | with_reducible refine bel_call ?_ (by with_reducible assumption) ?_ | (show (_ : Nat) ≤ _; first | omega | (simp <;> omega))))⟩
        case measure => simp [intOf]; omega
    · have hl := hL.len
      have hk' : k = xs.length := by omega
      subst hk'
      rw [List.take_length]
      clear hL
      go_wp2
      go_ret
      exact ⟨rfl, bw⟩

/-- How many bytes wait. -/
def bytesF (xs : List Msg) : Nat := (xs.map (fun m => m.text.size)).sum
theorem bytesF_step {xs : List Msg} {k : Nat} {m : Msg} (hm : xs[k]? = some m) : bytesF (xs.take (k + 1)) = bytesF (xs.take k) + m.text.size := by
  unfold bytesF
  rw [List.take_add_one, hm]
  simp
theorem bytesF_le {xs : List Msg} {M : Nat} (h : ∀ m ∈ xs, m.text.size ≤ M) : bytesF xs ≤ xs.length * M := by
  induction xs with
  | nil => simp [bytesF]
  | cons x xs ih =>
    have := ih (fun m hm => h m (by simp [hm]))
    have hx := h x (by simp)
    simp only [bytesF, List.map_cons, List.sum_cons, List.length_cons, Nat.succ_mul] at this ⊢
    omega

set_option maxHeartbeats 1000000 in
theorem bytes_any (vN : Value) (hvN : vN.oneCell' = true) (A : Option Addr) (n c : Nat) (xs : List Msg) (w : World) (hL : Ms w w.heap.size A n xs) (hn : n ≤ 1000000) (hr : ∀ m ∈ xs, m.text.size ≤ 1000000) :
    Calls Try.prog 12 #[.agg #[vN, .slice A n c]] w fun e w' => e = .returned (.int .i64 (bytesF xs)) ∧ Below w.heap.size w w' := by
  have Hr := Lib.hid hr
  clear hr
  go_enter Try.func12, Try.ntmps12
  go_wp2_with fail
  go_loopw [3, 9] (fun vn i wr => ∃ k : Nat, k ≤ n ∧ i = .int .i64 k ∧ vn = .int .i64 (bytesF (xs.take k)) ∧ Below w.heap.size w wr) (fun _ i _ => n - (intOf i).toNat)
  case atStart => exact ⟨0, by omega, rfl, by simp [bytesF], by (repeat (first | with_reducible exact Below.refl _ _ | with_reducible assumption | with_reducible refine below_drewN ?_ _ | with_reducible refine Below.drew ?_ | with_reducible refine Below.alloc ?_ ?_ _ | with_reducible refine Below.setCell ?_ ?_ _ | with_reducible refine bel_call ?_ (by with_reducible assumption) ?_ | (show (_ : Nat) ≤ _; first | omega | (simp <;> omega))))⟩
  case round =>
    obtain ⟨k, hk, rfl, rfl, bw⟩ := hrel
    have zw := bw.size
    have hle : bytesF (xs.take k) ≤ 1000000000000 := by
      have h1 := bytesF_le (xs := xs.take k) (M := 1000000) (fun m hm => Hr.out m (List.mem_of_mem_take hm))
      have h2 := List.length_take_le k xs
      have : (xs.take k).length * 1000000 ≤ 1000000 * 1000000 := Nat.mul_le_mul_right _ (by omega)
      omega
    by_cases hlt : k < n
    · obtain ⟨b, off, m, rfl, hb, hm, d0, d1, d2, d3, d4, d5⟩ := msg_at (hL.call bw (Nat.le_refl _)) hlt
      have hst := bytesF_step hm
      have r1 := Hr.out m (List.mem_of_getElem? hm)
      have HS := Lib.hid hst
      clear hm hst hL
      go_wp2
      go_roundw
      case rel => exact ⟨k + 1, by omega, by go_num, by rw [HS.out]; go_num, by (repeat (first | with_reducible exact Below.refl _ _ | with_reducible assumption | with_reducible refine below_drewN ?_ _ | with_reducible refine Below.drew ?_ | with_reducible refine Below.alloc ?_ ?_ _ | with_reducible refine Below.setCell ?_ ?_ _ | with_reducible refine bel_call ?_ (by with_reducible assumption) ?_ | (show (_ : Nat) ≤ _; first | omega | (simp <;> omega))))⟩
      case measure => simp [intOf]; omega
    · have hl := hL.len
      have hk' : k = xs.length := by omega
      subst hk'
      rw [List.take_length]
      clear hL
      go_wp2
      go_ret
      exact ⟨rfl, bw⟩

theorem pick_any (c n : Int) (w : World) (hc : -9223372036854775808 ≤ c) (hc' : c ≤ 9223372036854775807) (hn : 1 ≤ n) (hn' : n ≤ 1000) :
    Calls Try.prog 10 #[.int .i64 c, .int .i64 n] w fun e w' => e = .returned (.int .i64 ((if c < 0 then -(c + 1) else c) % n)) ∧ w = w' := by
  by_cases h : c < 0
  · rw [if_pos h]
    have e1 : (-(c + 1)).tmod n = (-(c + 1)) % n := Int.tmod_eq_emod_of_nonneg (by omega)
    go_enter Try.func10, Try.ntmps10
    go_wp2
    go_ret
    exact ⟨rfl, rfl⟩
  · rw [if_neg h]
    have e1 : c.tmod n = c % n := Int.tmod_eq_emod_of_nonneg (by omega)
    go_enter Try.func10, Try.ntmps10
    go_wp2
    go_ret
    exact ⟨rfl, rfl⟩

theorem new_no (s : Int) (w : World) (h : s < 1 ∨ 16 < s) :
    Calls Try.prog 9 #[.int .i64 s] w fun e w' => e = .returned (.tuple #[.agg #[.slice none 0 0, .slice none 0 0], .int .i64 1]) ∧ Below w.heap.size w w' := by
  by_cases h1 : s < 1
  · go_enter Try.func9, Try.ntmps9
    go_wp2_with fail
    exact bodyPost_ret (v := .tuple #[.agg #[.slice none 0 0, .slice none 0 0], .int .i64 1]) (by simp [results, Try.results9, go_sem]) rfl ⟨rfl, by (repeat (first | with_reducible exact Below.refl _ _ | with_reducible assumption | with_reducible refine below_drewN ?_ _ | with_reducible refine Below.drew ?_ | with_reducible refine Below.alloc ?_ ?_ _ | with_reducible refine Below.setCell ?_ ?_ _ | with_reducible refine bel_call ?_ (by with_reducible assumption) ?_ | (show (_ : Nat) ≤ _; first | omega | (simp <;> omega))))⟩
  · have h2 : 16 < s := by omega
    go_enter Try.func9, Try.ntmps9
    go_wp2_with fail
    exact bodyPost_ret (v := .tuple #[.agg #[.slice none 0 0, .slice none 0 0], .int .i64 1]) (by simp [results, Try.results9, go_sem]) rfl ⟨rfl, by (repeat (first | with_reducible exact Below.refl _ _ | with_reducible assumption | with_reducible refine below_drewN ?_ _ | with_reducible refine Below.drew ?_ | with_reducible refine Below.alloc ?_ ?_ _ | with_reducible refine Below.setCell ?_ ?_ _ | with_reducible refine bel_call ?_ (by with_reducible assumption) ?_ | (show (_ : Nat) ≤ _; first | omega | (simp <;> omega))))⟩

/-- A new queue. -/
def NewRet (k : Nat) (w : World) (e : Ending) (w' : World) : Prop :=
  ∃ g c, e = .returned (.tuple #[.agg #[.slice (some ⟨g, 0, none⟩) k c, .slice none 0 0], .int .i64 0]) ∧ w'.ownsRow w.heap.size 31 1 (.slice (some ⟨g, 0, none⟩) k c) k (flat u16c (List.replicate k 0)) ∧ Below w.heap.size w w'

theorem flat_zero : ∀ k : Nat, flat u16c (List.replicate k 0) = List.replicate k (.int .u16 0)
  | 0 => rfl
  | k + 1 => by rw [List.replicate_succ, flat_cons, flat_zero k, List.replicate_succ]; rfl

theorem new_yes (k : Nat) (w : World) (h : 1 ≤ k) (h' : k ≤ 16) :
    Calls Try.prog 9 #[.int .i64 k] w (NewRet k w) := by
  obtain ⟨i0, hi0, hz0, hz1, hz2⟩ := info_parts u16_info
  have HI := Lib.hid hi0
  have H0 := Lib.hid hz0
  have H1 := Lib.hid hz1
  have H2 := Lib.hid hz2
  clear hi0 hz0 hz1 hz2
  go_enter Try.func9, Try.ntmps9
  go_wp2_with (at_make; go_must (
    refine wpList_make_full _ rfl _ _ 22 rfl w.heap.size 31 i0 (.int .u16 0) 1 Try.underlying22 HI.out H0.out H1.out _ _ _ _ k rfl rfl rfl rfl (by rw [H2.out]; omega) (by unfold maxLen; omega) (by simp) ?_
    intro w0 hown0 hgrow0
    have T0 := (Whole.new w 27 #[.slice none 0 0, .slice none 0 0]).grown hgrow0 (by simp)
    have B0 : Below w.heap.size w w0 := below_grown (by (repeat (first | with_reducible exact Below.refl _ _ | with_reducible assumption | with_reducible refine below_drewN ?_ _ | with_reducible refine Below.drew ?_ | with_reducible refine Below.alloc ?_ ?_ _ | with_reducible refine Below.setCell ?_ ?_ _ | with_reducible refine bel_call ?_ (by with_reducible assumption) ?_ | (show (_ : Nat) ≤ _; first | omega | (simp <;> omega))))) hgrow0 (by simp) (fun k hk => by cases hk)
    have l0 := T0.lt
    obtain ⟨cQ, fQ⟩ := T0.reads))
  rw [show (Value.int .u16 0).cells = #[.int .u16 0] from rfl, toList_madeCells_one, Nat.mul_one, ← flat_zero, World.size_alloc] at hown0
  have n0 := own_whole hown0 T0 (by decide)
  exact bodyPost_ret (v := .tuple #[.agg #[.slice (some ⟨w.heap.size + 1, 0, none⟩) k k, .slice none 0 0], .int .i64 0]) (by simp [results, Try.results9, go_sem, cQ]) rfl
    ⟨w.heap.size + 1, k, rfl, own_far (own_far hown0 n0 _) n0 _, by (repeat (first | with_reducible exact Below.refl _ _ | with_reducible assumption | with_reducible refine below_drewN ?_ _ | with_reducible refine Below.drew ?_ | with_reducible refine Below.alloc ?_ ?_ _ | with_reducible refine Below.setCell ?_ ?_ _ | with_reducible refine bel_call ?_ (by with_reducible assumption) ?_ | (show (_ : Nat) ≤ _; first | omega | (simp <;> omega))))⟩
end Go.Proofs.Ytegefnidhdicdaa
