/- The numbers of streams, and their clone: at []uint16. -/
import Derived.Test.YtegefnidhdicdaaRows
import Derived.Test.YtegefnidhdicdaaSlc
namespace Go.Proofs.Ytegefnidhdicdaa
open Go.RowKit
set_option linter.unusedVariables false

def u16c (x : Int) : List Value := [.int .u16 x]
theorem u16c_len (x : Int) : (u16c x).length = 1 := rfl
abbrev Us := Lst u16c 1
theorem flat_oneU (xs : List Int) : ∀ u ∈ flat u16c xs, u.oneCell' = true := by
  intro u hu
  obtain ⟨m, _, hm⟩ := List.mem_flatMap.1 hu
  simp [u16c] at hm
  subst hm
  rfl
theorem flat_getU : ∀ (l : List Int) (s : Nat), (flat u16c l)[s]? = l[s]?.map (Value.int .u16)
  | [], s => by simp [flat]
  | x :: l, 0 => by simp [flat, u16c]
  | x :: l, s + 1 => by rw [flat_cons]; simpa [u16c] using flat_getU l s
theorem flat_setU : ∀ (l : List Int) (s : Nat) (y : Int), flat u16c (l.set s y) = (flat u16c l).set s (.int .u16 y)
  | [], s, y => by simp [flat]
  | x :: l, 0, y => by simp [flat, u16c]
  | x :: l, s + 1, y => by rw [List.set_cons_succ, flat_cons, flat_cons, flat_setU l s y]; simp [u16c]
theorem u16_info : (Try.prog.info? 31).map (fun i => (i.zero, i.size, i.bytes)) = some (some (.int .u16 0), 1, 2) := by kernel_rfl
theorem u16_at {w : World} {B : Nat} {A : Option Addr} {n : Nat} {xs : List Int} (h : Us w B A n xs) {i : Nat} (hi : i < n) :
    ∃ b off x, A = some ⟨b, off, none⟩ ∧ b < B ∧ xs[i]? = some x ∧ w.cell? ⟨b, off + i, none⟩ = some (.int .u16 x) := by
  obtain ⟨b, off, e, hlt, m, hm, hc⟩ := Lst.get h hi
  exact ⟨b, off, m, e, hlt, hm, by have := hc 0 _ rfl; simpa using this⟩

theorem cells_addU {w : World} {b off n : Nat} {xs : List Int} (hL : Us w w.heap.size (some ⟨b, off, none⟩) n xs) : ∀ j u, (flat u16c xs)[j]? = some u → w.cell? ((⟨b, off, none⟩ : Addr).add j) = some u := by
  intro j u hu
  have hj : j < n * 1 := by
    have := (List.getElem?_eq_some_iff.1 hu).1
    rwa [flat_len u16c_len, hL.len] at this
  obtain ⟨b', off', e, _, hc⟩ := hL.at_ (by omega)
  simp only [Option.some.injEq, Addr.mk.injEq, and_true] at e
  obtain ⟨rfl, rfl⟩ := e
  have hi : j / 1 < xs.length := by rw [hL.len]; omega
  have h1 : j / 1 * 1 + j % 1 = j := by omega
  rw [addr_add, ← h1]
  rw [← h1, flat_get u16c_len xs (j / 1) hi (j % 1) (by omega)] at hu
  rw [← Nat.add_assoc]
  exact hc (j / 1) hi (j % 1) u hu

set_option maxHeartbeats 1000000 in
theorem cloneU_any (A : Option Addr) (n c : Nat) (xs : List Int) (w : World) (hL : Us w w.heap.size A n xs) (hn : n ≤ 1000000) (hA : A.isSome = true ∨ n = 0) (hsp : ∀ x, A = some x → x.spot = none) :
    Calls Try.prog 26 #[.slice A n c] w (RetOwn w.heap.size 31 1 n (flat u16c xs) w) := by
  have he := fun W => Lib.run_eql_slice_nil (P := Try.prog) W 22 31 A n c 0 0 Try.underlying22
  rcases A with _ | ad
  · obtain rfl : n = 0 := by rcases hA with h | h; cases h; exact h
    have hx : xs = [] := List.eq_nil_of_length_eq_zero hL.len
    subst hx
    clear hA hL
    go_enter Try.func26, Try.ntmps26
    go_wp2
    go_ret
    exact ⟨none, 0, rfl, World.ownsRow_nil _ _ _ _, Below.refl _ _⟩
  · obtain ⟨b, off, spot⟩ := ad
    obtain rfl : spot = none := hsp _ rfl
    have hc := cells_addU hL
    have hl := hL.len
    have HC := Lib.hid hc
    have HL := Lib.hid hl
    obtain ⟨i0, hi0, hz0, hz1, hz2⟩ := info_parts u16_info
    have hz0' : i0.zero = some (.int .u16 0) := hz0
    have H0 := Lib.hid hi0
    have H1 := Lib.hid hz0'
    have H2 := Lib.hid hz1
    have H3 := Lib.hid hz2
    clear hc hl hL hA hsp hi0 hz0 hz0' hz1 hz2
    go_enter Try.func26, Try.ntmps26
    have hnew : ∀ j u, (flat u16c xs)[j]? = some u → (w.alloc (.cells #[] 31)).cell? ((⟨b, off, none⟩ : Addr).add j) = some u := fun j u hu => by
      have := HC.out j u hu
      rw [addr_add] at this ⊢
      rw [← this]
      exact World.cell?_alloc_lt w _ _ (World.block_lt_of_cell? w _ this)
    have HNW := Lib.hid hnew
    have hlen : (flat u16c xs).length = n * 1 := by rw [flat_len u16c_len, HL.out]
    have HLN := Lib.hid hlen
    clear hnew hlen
    have hown0 : (w.alloc (.cells #[] 31)).ownsRow w.heap.size 31 1 (.slice (some ⟨w.heap.size, 0, none⟩) 0 0) 0 [] := World.ownsRow_lit w #[] 0 (Nat.le_refl _) (by simp [maxLen]) (by simp)
    have HOW := Lib.hid hown0
    clear hown0
    go_wp2_with (at_builtin; refine wpList_append_own _ rfl (.tmp 5) (.tmp 6) 22 rfl w.heap.size 31 i0 _ 1 2 Try.underlying22 H0.out H1.out H2.out H3.out rfl (by omega) (.slice (some ⟨w.heap.size, 0, none⟩) 0 0) 0 [] rfl HOW.out ⟨b, off, none⟩ n c (flat u16c xs) rfl HLN.out HNW.out (flat_oneU xs) (by simp only [maxLen]; omega) (by omega) (by simp) ?_; intro v' w1 hown1 hgrow hnil)
    go_ret
    rw [Nat.zero_add, List.nil_append] at hown1
    refine retOwn_mk hown1 (((Below.refl _ _).alloc (Nat.le_refl _) _).grown hgrow (by simp) fun k hk => ?_)
    simp [Value.ownBlock] at hk
    omega
end Go.Proofs.Ytegefnidhdicdaa
