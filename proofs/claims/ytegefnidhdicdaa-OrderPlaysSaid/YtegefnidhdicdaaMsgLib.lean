/- The functions of the library that the package order uses, at messages: one contract a function. -/
import Derived.Test.YtegefnidhdicdaaRows
import Derived.Test.YtegefnidhdicdaaMsg
import Derived.Test.YtegefnidhdicdaaSlc
namespace Go.Proofs.Ytegefnidhdicdaa
open Go.RowKit
set_option linter.unusedVariables false

/-- The place of the first that p tells; -1: none. -/
def idx {α : Type} (p : α → Bool) (xs : List α) : Int := if xs.findIdx p < xs.length then (xs.findIdx p : Int) else -1

theorem idx_at {α : Type} {p : α → Bool} {xs : List α} {k : Nat} {m : α} (hk : xs[k]? = some m) (hno : ∀ j (h : j < xs.length), j < k → p xs[j] = false) (hp : p m = true) : idx p xs = k := by
  obtain ⟨hl, he⟩ := List.getElem?_eq_some_iff.1 hk
  have : xs.findIdx p = k := by
    rw [List.findIdx_eq hl]
    exact ⟨by rw [he]; exact hp, fun j hj => hno j (by omega) hj⟩
  unfold idx
  rw [this, if_pos hl]
theorem idx_none {α : Type} {p : α → Bool} {xs : List α} (hno : ∀ j (h : j < xs.length), p xs[j] = false) : idx p xs = -1 := by
  unfold idx
  rw [if_neg]
  intro h
  have := List.findIdx_getElem (w := h)
  rw [hno _ h] at this
  cases this

set_option maxHeartbeats 1000000 in
theorem indexFunc_any (p : Msg → Bool) (fid : FuncId) (caps : Array Value) (A : Option Addr) (n c : Nat) (xs : List Msg) (w : World) (hL : Ms w w.heap.size A n xs)
    (hent : ∀ (a : Array Value) (W : World), (callFunc fid a).run Try.prog W = .ok (.enter fid a) W)
    (hf : ∀ (m : Msg) W, Below w.heap.size w W → w.heap.size ≤ W.heap.size → Calls Try.prog fid (#[.agg #[.int .u32 m.first, .bool m.free, .int .u16 m.stream, .int .u16 m.ssn, .int .u32 m.ppid, .string m.text]] ++ caps) W fun e w' => e = .returned (.bool (p m)) ∧ Below W.heap.size W w') :
    Calls Try.prog 34 #[.slice A n c, .func (.func fid) #[] caps] w fun e w' => e = .returned (.int .i64 (idx p xs)) ∧ Below w.heap.size w w' := by
  have HF := Lib.hid hf
  have HM := hL.most
  unfold maxLen at HM
  clear hf
  go_enter Try.func34, Try.ntmps34
  go_wp2_with fail
  go_loopw [8] (fun i wr => ∃ k : Nat, k ≤ n ∧ i = .int .i64 k ∧ Below w.heap.size w wr ∧ ∀ j (h : j < xs.length), j < k → p xs[j] = false) (fun i _ => n - (intOf i).toNat)
  case atStart => exact ⟨0, by omega, rfl, Below.refl _ _, fun j _ h => absurd h (by omega)⟩
  case round =>
    obtain ⟨k, hk, rfl, bw, hno⟩ := hrel
    have Hno := Lib.hid hno
    clear hno
    have zw := bw.size
    by_cases hlt : k < n
    · obtain ⟨b, off, m, rfl, hb, hm, d0, d1, d2, d3, d4, d5⟩ := msg_at (hL.call bw (Nat.le_refl _)) hlt
      have Hm := Lib.hid hm
      clear hm
      cases hp : p m
      · go_wp2_with fail
        refine (HF.out m _ bw zw).mono ?_
        rintro e w1 ⟨he, hb1⟩
        rw [hp] at he
        subst he
        have B1 : Below w.heap.size w w1 := by (repeat (first | with_reducible exact Below.refl _ _ | with_reducible assumption | with_reducible refine below_drewN ?_ _ | with_reducible refine Below.drew ?_ | with_reducible refine Below.alloc ?_ ?_ _ | with_reducible refine Below.setCell ?_ ?_ _ | with_reducible refine bel_call ?_ (by with_reducible assumption) ?_ | (show (_ : Nat) ≤ _; first | omega | (simp <;> omega))))
        go_wp2
        go_roundw
        case rel => exact ⟨k + 1, by omega, by go_num, B1, fun j h hj => by
          by_cases e : j = k
          · subst e
            obtain ⟨_, he⟩ := List.getElem?_eq_some_iff.1 Hm.out
            rw [he]; exact hp
          · exact Hno.out j h (by omega)⟩
        case measure => simp [intOf]; omega
      · go_wp2_with fail
        refine (HF.out m _ bw zw).mono ?_
        rintro e w1 ⟨he, hb1⟩
        rw [hp] at he
        subst he
        have B1 : Below w.heap.size w w1 := by (repeat (first | with_reducible exact Below.refl _ _ | with_reducible assumption | with_reducible refine below_drewN ?_ _ | with_reducible refine Below.drew ?_ | with_reducible refine Below.alloc ?_ ?_ _ | with_reducible refine Below.setCell ?_ ?_ _ | with_reducible refine bel_call ?_ (by with_reducible assumption) ?_ | (show (_ : Nat) ≤ _; first | omega | (simp <;> omega))))
        go_wp2
        go_ret
        exact ⟨ret_int' (idx_at Hm.out Hno.out hp).symm, B1⟩
    · have hl := Lib.hid hL.len
      clear hL
      go_wp2
      go_ret
      exact ⟨ret_int' (idx_none fun j h => Hno.out j h (by have := hl.out; omega)).symm, bw⟩

theorem msg_info : (Try.prog.info? 38).map (fun i => (i.zero, i.size, i.bytes)) = some (some (.agg #[.int .u32 0, .bool false, .int .u16 0, .int .u16 0, .int .u32 0, .string ByteArray.empty]), 6, 32) := by kernel_rfl

theorem flat_one (xs : List Msg) : ∀ u ∈ flat Msg.cs xs, u.oneCell' = true := by
  intro u hu
  obtain ⟨m, _, hm⟩ := List.mem_flatMap.1 hu
  exact m.cs_one u hm

theorem msg_zero (W : World) : (zeroValue 38).run Try.prog W = .ok (.agg #[.int .u32 0, .bool false, .int .u16 0, .int .u16 0, .int .u32 0, .string ByteArray.empty]) W := by kernel_rfl

/-- What is left of a row when element i was taken out of it. -/
theorem erase_row {cur : Array Value} {xs : List Msg} {m c i : Nat} (hm : xs.length = m + 1) (hi : i ≤ m) (hc : m + 1 ≤ c) (hs : cur.size = c * 6) (ht : cur.toList.take ((m + 1) * 6) = flat Msg.cs xs) (news : List Value)
    (hn : news = flat Msg.cs (xs.drop (i + 1))) :
    (cur.toList.take (i * 6) ++ (news ++ cur.toList.drop (i * 6 + news.length))).toArray.size = c * 6 ∧
      (cur.toList.take (i * 6) ++ (news ++ cur.toList.drop (i * 6 + news.length))).take (m * 6) = flat Msg.cs (xs.eraseIdx i) := by
  have hl : news.length = (m - i) * 6 := by rw [hn, flat_len Msg.cs_len, List.length_drop, hm]; congr 1; omega
  constructor
  · simp only [List.size_toArray, List.length_append, List.length_take, List.length_drop, hl, Array.length_toList, hs]
    omega
  · have e1 : (cur.toList.take (i * 6)).length = i * 6 := by rw [List.length_take, Array.length_toList]; omega
    rw [flat_erase Msg.cs_len, ← flat_drop Msg.cs_len, ← hn, ← ht, List.take_take, Nat.min_eq_left (by omega), ← List.append_assoc, List.take_append_of_le_length (by rw [List.length_append, e1, hl]; omega),
      List.take_of_length_le (by rw [List.length_append, e1, hl]; omega)]

set_option maxHeartbeats 1000000 in
theorem delete_any (base g m c i : Nat) (xs : List Msg) (w : World) (hown : w.ownsRow base 38 6 (.slice (some ⟨g, 0, none⟩) (m + 1) c) (m + 1) (flat Msg.cs xs)) (hi : i ≤ m) :
    Calls Try.prog 36 #[.slice (some ⟨g, 0, none⟩) (m + 1) c, .int .i64 i, .int .i64 (i + 1)] w fun e w' =>
      e = .returned (.slice (some ⟨g, 0, none⟩) m c) ∧ w'.ownsRow base 38 6 (.slice (some ⟨g, 0, none⟩) m c) m (flat Msg.cs (xs.eraseIdx i)) ∧ w.grownBy w' (some g) := by
  rcases hown.2 with ⟨h0, _⟩ | ⟨g', c', cur, hv, hbg, hg, hnc, hcm, hsz, htk⟩
  · cases h0
  · simp only [Value.slice.injEq, Option.some.injEq, Addr.mk.injEq, and_true, true_and] at hv
    obtain ⟨rfl, rfl⟩ := hv
    have hm := hcm
    unfold maxLen at hm
    have hne : ((i : Int) == (i : Int) + 1) = false := by simp; omega
    have hl : xs.length = m + 1 := by
      have := hown.1
      rw [flat_len Msg.cs_len] at this
      exact Nat.eq_of_mul_eq_mul_right (by omega) this
    obtain ⟨i0, hi0, hz0, hz1, hz2⟩ := info_parts msg_info
    have hnl : (flat Msg.cs (xs.drop (i + 1))).length = (m - i) * 6 := by rw [flat_len Msg.cs_len, List.length_drop, hl]; congr 1; omega
    have hnews : ∀ j u, (flat Msg.cs (xs.drop (i + 1)))[j]? = some u → w.cell? ((⟨g, (i + 1) * 6, none⟩ : Addr).add j) = some u := by
      intro j u hu
      rw [flat_drop Msg.cs_len, List.getElem?_drop] at hu
      have hj : (i + 1) * 6 + j < (m + 1) * 6 := by
        have := (List.getElem?_eq_some_iff.1 hu).1
        rwa [flat_len Msg.cs_len, hl] at this
      rw [addr_add, cell_of_row w g ((i + 1) * 6 + j) cur _ _ hg, ← hu, ← htk, List.getElem?_take, if_pos hj, Array.getElem?_toList]
    obtain ⟨news, hnw⟩ : ∃ news, news = flat Msg.cs (xs.drop (i + 1)) := ⟨_, rfl⟩
    obtain ⟨k1, k2⟩ := erase_row hl hi hnc hsz htk news hnw
    have hone := flat_one (xs.drop (i + 1))
    rw [← hnw] at hnews hnl hone
    have HK1 := Lib.hid k1
    have HK2 := Lib.hid k2
    have HG := Lib.hid hg
    have HZ1 := Lib.hid hz1
    have HI0 := Lib.hid hi0
    have HN := Lib.hid hnews
    have HO := Lib.hid hone
    have HNL := Lib.hid hnl
    have HS := Lib.hid hsz
    have HX := Lib.hid hl
    clear k1 k2 htk hl hsz hg hown hz0 hz1 hz2 hi0 hnews hnw hone hnl
    have e1 : ((i : Int) + 1).toNat = i + 1 := by omega
    have e2 : i + (m - i) = m := by omega
    have q1 : i ≤ c := by omega
    have q2 : i + 1 ≤ m + 1 := by omega
    have q3 : i + 1 ≤ c := by omega
    have q4 : (0 : Int) ≤ (i : Int) + 1 := by omega
    have q5 : (i : Int) + 1 ≤ (m : Int) + 1 := by omega
    by_cases hci : c = i + 1
    · subst hci
      obtain rfl : m = i := by omega
      have hz : ∀ j u, news[j]? = some u → w.cell? ((⟨g, 0, none⟩ : Addr).add j) = some u := fun j u hu => by
        have h0 := HNL.out
        have := (List.getElem?_eq_some_iff.1 hu).1
        omega
      have HNZ := Lib.hid hz
      clear hz
      have q6 : (m : Int) ≤ (m : Int) + 1 := by omega
      go_enter Try.func36, Try.ntmps36
      go_wp2_with fail
      go_region_law ((refine step_append_row (by rfl) _ _ _ (by rfl) 38 i0 6 Try.underlying25 HI0.out HZ1.out g m (m + 1) cur HG.out (by rfl) ⟨g, 0, none⟩ 0 0 news (by rfl) (by rw [HNL.out]; simp) HNZ.out HO.out (by omega) (by have := HS.out; have := HNL.out; omega) ?_))
      all_goals
        have hg1 : (w.drew.setRow g (cur.toList.take (m * 6) ++ (news ++ cur.toList.drop (m * 6 + news.length))).toArray).heap[g]? = some (.cells (cur.toList.take (m * 6) ++ (news ++ cur.toList.drop (m * 6 + news.length))).toArray 38 (0, 0)) := setRow_heap w.drew g cur _ _ _ HG.out
        have hr1 := grown_trans (grown_drew0 w (some g)) (grown_setRow w.drew g (cur.toList.take (m * 6) ++ (news ++ cur.toList.drop (m * 6 + news.length))).toArray)
        have HG1 := Lib.hid hg1
        clear hg1
        go_wp2_with (refine wpList_clear_row (by rfl) (.tmp 31) 25 (by rfl) 38 _ 6 Try.underlying25 msg_zero (by rfl) (by intro u hu; simp [Value.cells] at hu; rcases hu with rfl | rfl | rfl | rfl | rfl | rfl <;> rfl) (by omega) g (m * 6) 1 1 _ (by rfl) HG1.out (by rw [HK1.out]; omega) ?_; intro cur2 hs2 ht2)
        go_ret
        refine ⟨rfl, ⟨by rw [flat_len Msg.cs_len, List.length_eraseIdx, HX.out, if_pos (by omega)]; rfl, .inr ⟨g, m + 1, cur2, rfl, hbg, setRow_heap _ g _ cur2 _ _ HG1.out, by omega, hcm, by rw [hs2, HK1.out], ?_⟩⟩, grown_trans hr1 (grown_setRow _ g cur2)⟩
        rw [ht2]
        exact HK2.out
    · have hci' : ¬ (i + 1 : Nat) = c := fun h => hci h.symm
      go_enter Try.func36, Try.ntmps36
      go_wp2_with fail
      go_region_law ((refine step_append_row (by rfl) _ _ _ (by rfl) 38 i0 6 Try.underlying25 HI0.out HZ1.out g i c cur HG.out (by rfl) ⟨g, (i + 1) * 6, none⟩ (m - i) (c - (i + 1)) news (by rfl) HNL.out HN.out HO.out (by omega) (by have := HS.out; have := HNL.out; omega) ?_))
      all_goals
        have hg1 : (w.drew.setRow g (cur.toList.take (i * 6) ++ (news ++ cur.toList.drop (i * 6 + news.length))).toArray).heap[g]? = some (.cells (cur.toList.take (i * 6) ++ (news ++ cur.toList.drop (i * 6 + news.length))).toArray 38 (0, 0)) := setRow_heap w.drew g cur _ _ _ HG.out
        have hr1 := grown_trans (grown_drew0 w (some g)) (grown_setRow w.drew g (cur.toList.take (i * 6) ++ (news ++ cur.toList.drop (i * 6 + news.length))).toArray)
        have HG1 := Lib.hid hg1
        clear hg1
        go_wp2_with (refine wpList_clear_row (by rfl) (.tmp 31) 25 (by rfl) 38 _ 6 Try.underlying25 msg_zero (by rfl) (by intro u hu; simp [Value.cells] at hu; rcases hu with rfl | rfl | rfl | rfl | rfl | rfl <;> rfl) (by omega) g (m * 6) 1 (c - m) _ (by rfl) HG1.out (by rw [HK1.out]; omega) ?_; intro cur2 hs2 ht2)
        go_ret
        refine ⟨rfl, ⟨by rw [flat_len Msg.cs_len, List.length_eraseIdx, HX.out, if_pos (by omega)]; rfl, .inr ⟨g, c, cur2, rfl, hbg, setRow_heap _ g _ cur2 _ _ HG1.out, by omega, hcm, by rw [hs2, HK1.out], ?_⟩⟩, grown_trans hr1 (grown_setRow _ g cur2)⟩
        rw [ht2]
        exact HK2.out

theorem delete_len (base g n c i : Nat) (xs : List Msg) (w : World) (hown : w.ownsRow base 38 6 (.slice (some ⟨g, 0, none⟩) n c) n (flat Msg.cs xs)) (hi : i < n) :
    Calls Try.prog 36 #[.slice (some ⟨g, 0, none⟩) n c, .int .i64 i, .int .i64 (i + 1)] w fun e w' =>
      e = .returned (.slice (some ⟨g, 0, none⟩) (n - 1) c) ∧ w'.ownsRow base 38 6 (.slice (some ⟨g, 0, none⟩) (n - 1) c) (n - 1) (flat Msg.cs (xs.eraseIdx i)) ∧ w.grownBy w' (some g) := by
  obtain ⟨m, rfl⟩ : ∃ m, n = m + 1 := ⟨n - 1, by omega⟩
  exact delete_any base g m c i xs w hown (by omega)

theorem cells_add {w : World} {b off n : Nat} {xs : List Msg} (hL : Ms w w.heap.size (some ⟨b, off, none⟩) n xs) : ∀ j u, (flat Msg.cs xs)[j]? = some u → w.cell? ((⟨b, off, none⟩ : Addr).add j) = some u := by
  intro j u hu
  have hj : j < n * 6 := by
    have := (List.getElem?_eq_some_iff.1 hu).1
    rwa [flat_len Msg.cs_len, hL.len] at this
  obtain ⟨b', off', e, _, hc⟩ := hL.at_ (by omega)
  simp only [Option.some.injEq, Addr.mk.injEq, and_true] at e
  obtain ⟨rfl, rfl⟩ := e
  have hi : j / 6 < xs.length := by rw [hL.len]; omega
  have h1 : j / 6 * 6 + j % 6 = j := by omega
  rw [addr_add, ← h1]
  rw [← h1, flat_get Msg.cs_len xs (j / 6) hi (j % 6) (by omega)] at hu
  rw [← Nat.add_assoc]
  exact hc (j / 6) hi (j % 6) u hu

set_option maxHeartbeats 1000000 in
theorem cloneM_any (A : Option Addr) (n c : Nat) (xs : List Msg) (w : World) (hL : Ms w w.heap.size A n xs) (hn : n ≤ 1000000) (hA : A.isSome = true ∨ n = 0) (hsp : ∀ x, A = some x → x.spot = none) :
    Calls Try.prog 27 #[.slice A n c] w (RetOwn w.heap.size 38 6 n (flat Msg.cs xs) w) := by
  have he := fun W => Lib.run_eql_slice_nil (P := Try.prog) W 25 38 A n c 0 0 Try.underlying25
  rcases A with _ | ad
  · obtain rfl : n = 0 := by rcases hA with h | h; cases h; exact h
    have hx : xs = [] := List.eq_nil_of_length_eq_zero hL.len
    subst hx
    clear hA hL
    go_enter Try.func27, Try.ntmps27
    go_wp2
    go_ret
    exact ⟨none, 0, rfl, World.ownsRow_nil _ _ _ _, Below.refl _ _⟩
  · obtain ⟨b, off, spot⟩ := ad
    obtain rfl : spot = none := hsp _ rfl
    have hc := cells_add hL
    have hl := hL.len
    have HC := Lib.hid hc
    have HL := Lib.hid hl
    obtain ⟨i0, hi0, hz0, hz1, hz2⟩ := info_parts msg_info
    have hz0' : i0.zero = some (.agg #[.int .u32 0, .bool false, .int .u16 0, .int .u16 0, .int .u32 0, .string ByteArray.empty]) := hz0
    have H0 := Lib.hid hi0
    have H1 := Lib.hid hz0'
    have H2 := Lib.hid hz1
    have H3 := Lib.hid hz2
    clear hc hl hL hA hsp hi0 hz0 hz0' hz1 hz2
    go_enter Try.func27, Try.ntmps27
    have hnew : ∀ j u, (flat Msg.cs xs)[j]? = some u → (w.alloc (.cells #[] 38)).cell? ((⟨b, off, none⟩ : Addr).add j) = some u := fun j u hu => by
      have := HC.out j u hu
      rw [addr_add] at this ⊢
      rw [← this]
      exact World.cell?_alloc_lt w _ _ (World.block_lt_of_cell? w _ this)
    have HNW := Lib.hid hnew
    have hlen : (flat Msg.cs xs).length = n * 6 := by rw [flat_len Msg.cs_len, HL.out]
    have HLN := Lib.hid hlen
    clear hnew hlen
    have hown0 : (w.alloc (.cells #[] 38)).ownsRow w.heap.size 38 6 (.slice (some ⟨w.heap.size, 0, none⟩) 0 0) 0 [] := World.ownsRow_lit w #[] 0 (Nat.le_refl _) (by simp [maxLen]) (by simp)
    have HOW := Lib.hid hown0
    clear hown0
    go_wp2_with (at_builtin; refine wpList_append_own _ rfl (.tmp 5) (.tmp 6) 25 rfl w.heap.size 38 i0 _ 6 32 Try.underlying25 H0.out H1.out H2.out H3.out rfl (by omega) (.slice (some ⟨w.heap.size, 0, none⟩) 0 0) 0 [] rfl HOW.out ⟨b, off, none⟩ n c (flat Msg.cs xs) rfl HLN.out HNW.out (flat_one xs) (by simp only [maxLen]; omega) (by omega) (by simp) ?_; intro v' w1 hown1 hgrow hnil)
    go_ret
    rw [Nat.zero_add, List.nil_append] at hown1
    refine retOwn_mk hown1 (((Below.refl _ _).alloc (Nat.le_refl _) _).grown hgrow (by simp) fun k hk => ?_)
    simp [Value.ownBlock] at hk
    omega
end Go.Proofs.Ytegefnidhdicdaa
