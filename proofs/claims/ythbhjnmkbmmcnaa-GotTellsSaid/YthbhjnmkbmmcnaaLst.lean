/- A slice whose elements are structs of one-cell fields, read as a list. Of whatever program. -/
import Derived.Test.YthbhjnmkbmmcnaaKit
import Derived.Deep.AppendLies
namespace Go.Proofs.Ythbhjnmkbmmcnaa
open Go.RowKit

theorem addr_add (b o j : Nat) : (⟨b, o, none⟩ : Addr).add j = ⟨b, o + j, none⟩ := by unfold Addr.add; split <;> simp_all

section
variable {α : Type}
/-- The slice value '.slice A n c' reads as the list xs: element i lies in k cells, as 'enc' says; all of it below block B. -/
structure Lst (enc : α → List Value) (k : Nat) (w : World) (B : Nat) (A : Option Addr) (n : Nat) (xs : List α) : Prop where
  len : xs.length = n
  most : n ≤ maxLen
  at_ : 0 < n → ∃ b off, A = some ⟨b, off, none⟩ ∧ b < B ∧ ∀ i (h : i < xs.length) j u, (enc xs[i])[j]? = some u → w.cell? ⟨b, off + i * k + j, none⟩ = some u

variable {enc : α → List Value} {k : Nat} {w w' : World} {B B' : Nat} {A : Option Addr} {n : Nat} {xs : List α}
theorem Lst.nil_ : Lst enc k w B none 0 [] := ⟨rfl, by simp [maxLen], fun h => absurd h (by omega)⟩
theorem Lst.empty (h : n = 0) : Lst enc k w B A n [] := ⟨by simp [h], by simp [h, maxLen], fun h' => absurd h' (by omega)⟩
theorem Lst.call (h : Lst enc k w B A n xs) (hb : Below B' w w') (hB : B ≤ B') : Lst enc k w' B A n xs :=
  ⟨h.len, h.most, fun hn => by
    obtain ⟨b, off, e, hlt, hc⟩ := h.at_ hn
    exact ⟨b, off, e, hlt, fun i hi j u hu => (hb.cell (p := ⟨b, off + i * k + j, none⟩) (by show b < B'; omega)).trans (hc i hi j u hu)⟩⟩
theorem Lst.more (h : Lst enc k w B A n xs) (hB : B ≤ B') : Lst enc k w B' A n xs :=
  ⟨h.len, h.most, fun hn => by
    obtain ⟨b, off, e, hlt, hc⟩ := h.at_ hn
    exact ⟨b, off, e, by omega, hc⟩⟩
theorem Lst.drew (h : Lst enc k w B A n xs) : Lst enc k w.drew B A n xs := ⟨h.len, h.most, h.at_⟩
theorem Lst.drewN (h : Lst enc k w B A n xs) (m : Nat) : Lst enc k (w.drewN m) B A n xs := ⟨h.len, h.most, h.at_⟩
/-- The cells of element i, one by one. -/
theorem Lst.get (h : Lst enc k w B A n xs) {i : Nat} (hi : i < n) :
    ∃ b off, A = some ⟨b, off, none⟩ ∧ b < B ∧ ∃ x, xs[i]? = some x ∧ ∀ j u, (enc x)[j]? = some u → w.cell? ⟨b, off + i * k + j, none⟩ = some u := by
  obtain ⟨b, off, e, hlt, hc⟩ := h.at_ (by omega)
  have hl : i < xs.length := by rw [h.len]; exact hi
  exact ⟨b, off, e, hlt, xs[i], List.getElem?_eq_getElem hl, hc i hl⟩

/-- The flat row of cells of a list. -/
def flat (enc : α → List Value) (xs : List α) : List Value := xs.flatMap enc
theorem flat_nil : flat enc [] = [] := rfl
theorem flat_cons (x : α) (xs : List α) : flat enc (x :: xs) = enc x ++ flat enc xs := rfl
theorem flat_append (xs ys : List α) : flat enc (xs ++ ys) = flat enc xs ++ flat enc ys := by simp [flat]
theorem flat_len (hk : ∀ x, (enc x).length = k) : ∀ xs : List α, (flat enc xs).length = xs.length * k
  | [] => by simp [flat]
  | x :: xs => by rw [flat_cons, List.length_append, hk, flat_len hk xs, List.length_cons, Nat.succ_mul]; omega
theorem flat_get (hk : ∀ x, (enc x).length = k) : ∀ (xs : List α) (i : Nat) (h : i < xs.length) (j : Nat), j < k → (flat enc xs)[i * k + j]? = (enc xs[i])[j]?
  | x :: xs, 0, h, j, hj => by
    rw [flat_cons, Nat.zero_mul, Nat.zero_add, List.getElem?_append_left (by rw [hk]; exact hj)]; rfl
  | x :: xs, i + 1, h, j, hj => by
    rw [flat_cons, List.getElem?_append_right (by rw [hk, Nat.succ_mul]; omega), hk, show (i + 1) * k + j - k = i * k + j from by rw [Nat.succ_mul]; omega]
    exact flat_get hk xs i (by simpa using h) j hj
theorem flat_inj (he : ∀ x y, enc x = enc y → x = y) (hk : ∀ x, (enc x).length = k) (hk0 : 0 < k) : ∀ xs ys : List α, flat enc xs = flat enc ys → xs = ys
  | [], [], _ => rfl
  | [], y :: ys, h => by have := congrArg List.length h; rw [flat_len hk, flat_len hk] at this; simp [Nat.succ_mul] at this; omega
  | x :: xs, [], h => by have := congrArg List.length h; rw [flat_len hk, flat_len hk] at this; simp [Nat.succ_mul] at this; omega
  | x :: xs, y :: ys, h => by
    rw [flat_cons, flat_cons] at h
    obtain ⟨h1, h2⟩ := List.append_inj h (by rw [hk, hk])
    rw [he x y h1, flat_inj he hk hk0 xs ys h2]

/-- A row that the call owns reads as a list. -/
theorem Lst.of_own {base E c : Nat} (hk : ∀ x, (enc x).length = k) (hk0 : 0 < k) (h : w.ownsRow base E k (.slice A n c) n (flat enc xs)) (hm : n ≤ maxLen) : Lst enc k w w.heap.size A n xs := by
  have hl : xs.length = n := by
    have := h.1
    rw [flat_len hk] at this
    exact Nat.eq_of_mul_eq_mul_right hk0 this
  refine ⟨hl, hm, fun hn => ?_⟩
  obtain ⟨g, cap, hv, _, hlt⟩ := h.form hn
  have hA : A = some ⟨g, 0, none⟩ := by injection hv
  subst hA
  refine ⟨g, 0, rfl, hlt, fun i hi j u hu => ?_⟩
  have hj : j < k := by rw [← hk xs[i]]; exact (List.getElem?_eq_some_iff.1 hu).1
  have := h.cells (g := g) rfl (i * k + j) u (by rw [flat_get hk xs i hi j hj]; exact hu)
  rw [addr_add] at this
  rw [show (0 : Nat) + i * k + j = 0 + (i * k + j) from by omega]
  exact this
end
end Go.Proofs.Ythbhjnmkbmmcnaa
