/- 'Put' of the package order, at any queue and any message; and what is plain of what it computes. -/
import Derived.Test.YtegefnidhdicdaaOrdPutT
namespace Go.Proofs.Ytegefnidhdicdaa
open Go.RowKit
set_option linter.unusedVariables false

theorem findF_cases (s x : Int) (xs : List Msg) : findF s x xs = -1 ∨ 0 ≤ findF s x xs := by
  unfold findF idx
  split
  · exact .inr (by omega)
  · exact .inl rfl

theorem put_any {AN AW : Option Addr} {kN nW : Nat} (cN cW : Nat) (m : Msg) (next : List Int) (wait : List Msg) (w : World) (hq : QIs w w.heap.size AN AW kN nW next wait) (hk : next.length ≤ 65535) (hn : wait.length < 1000000) (hs0 : 0 ≤ m.stream) (hs1 : m.stream ≤ 65535)
    (hr : ∀ x ∈ next, 0 ≤ x ∧ x ≤ 65535) :
    Calls Try.prog 11 #[.agg #[.slice AN kN cN, .slice AW nW cW], .agg #[.int .u32 m.first, .bool m.free, .int .u16 m.stream, .int .u16 m.ssn, .int .u32 m.ppid, .string m.text]] w (PutRet AN AW (putF next wait m) w) := by
  obtain ⟨hN, hW, oN, oW⟩ := hq
  obtain ⟨fi, fr, st, ssn, pp, tx⟩ := m
  obtain ⟨s, rfl⟩ := Int.eq_ofNat_of_zero_le hs0
  have lN := hN.len
  have lW := hW.len
  simp only at hs1
  unfold putF
  simp only [Int.toNat_natCast]
  by_cases h1 : kN ≤ s
  · rw [if_pos (by omega)]
    exact put_stream AN AW kN cN nW cW s fi ssn pp fr tx w (by omega) h1 (by omega)
  · rw [if_neg (by omega)]
    cases fr with
    | true =>
      rw [if_pos rfl]
      exact put_free AN AW kN cN nW cW s fi ssn pp tx next wait w (by omega) (by omega) hN hW oN oW
    | false =>
      rw [if_neg (by simp)]
      have hx : next[s]? = some (next.getD s 0) := by
        rw [List.getD_eq_getElem?_getD, List.getElem?_eq_getElem (by omega)]; rfl
      have hxr := hr _ (List.mem_of_getElem? hx)
      obtain ⟨x, hxe⟩ : ∃ x, next.getD s 0 = x := ⟨_, rfl⟩
      rw [hxe] at hx hxr ⊢
      cases hl : lateB ssn x with
      | true => rw [if_pos (.inl rfl)]; exact put_late AN AW kN cN nW cW s fi ssn pp x tx next w (by omega) (by omega) hN hx hl
      | false =>
        rcases findF_cases s ssn wait with hf | hf
        · rw [if_neg (by rw [hf]; simp)]
          exact put_told AN AW kN cN nW cW s fi ssn pp x tx next wait w (by omega) (by omega) (by omega) hN hW oW hx hl hf hxr.1 hxr.2
        · rw [if_pos (.inr hf)]
          exact put_found AN AW kN cN nW cW s fi ssn pp x _ tx next wait w (by omega) (by omega) hN hW hx hl rfl hf

/-- What holds of a queue that came of a new one and of messages. -/
structure QOk (k n : Nat) (P : Msg → Prop) (next : List Int) (wait : List Msg) : Prop where
  len : next.length = k
  most : wait.length ≤ n
  nums : ∀ x ∈ next, 0 ≤ x ∧ x ≤ 65535
  all : ∀ m ∈ wait, P m
theorem putF_ok {k n : Nat} {P : Msg → Prop} {next : List Int} {wait : List Msg} {m : Msg} (h : QOk k n P next wait) (hm : P m) (h0 : (putF next wait m).1 = 0) :
    QOk k (n + 1) P (putF next wait m).2.1 (putF next wait m).2.2.1 ∧ (∀ x ∈ (putF next wait m).2.2.2, P x) ∧ (putF next wait m).2.2.2.length ≤ n + 1 := by
  have hl := h.most
  unfold putF at h0 ⊢
  split at h0
  · simp at h0
  · rename_i h1
    rw [if_neg h1]
    split at h0
    · rename_i h2
      rw [if_pos h2]
      exact ⟨⟨h.len, Nat.le_succ_of_le hl, h.nums, h.all⟩, by simpa using hm, by simp⟩
    · rename_i h2
      rw [if_neg h2]
      split at h0
      · simp at h0
      · rename_i h3
        rw [if_neg h3]
        have hall : ∀ x ∈ wait ++ [m], P x := fun x hx => by
          rcases List.mem_append.1 hx with hx | hx
          · exact h.all x hx
          · rw [List.mem_singleton.1 hx]; exact hm
        have hlen := toldF_len m.stream (wait ++ [m]).length (next.getD m.stream.toNat 0) (wait ++ [m])
        have hx0 : 0 ≤ next.getD m.stream.toNat 0 ∧ next.getD m.stream.toNat 0 ≤ 65535 := by
          rw [List.getD_eq_getElem?_getD]
          cases hc : next[m.stream.toNat]? with
          | none => simp
          | some v => exact h.nums v (List.mem_of_getElem? hc)
        have hx := toldF_range m.stream (wait ++ [m]).length _ (wait ++ [m]) hx0.1 hx0.2
        simp only [List.length_append, List.length_singleton] at hlen ⊢
        refine ⟨⟨by simp [h.len], by omega, fun x hx' => ?_, fun x hx' => hall x (toldF_wait hx')⟩, fun x hx' => hall x (toldF_told hx'), by omega⟩
        rcases List.mem_or_eq_of_mem_set hx' with h' | h'
        · exact h.nums x h'
        · subst h'; simpa using hx
end Go.Proofs.Ytegefnidhdicdaa
