/- Pieces: what is put in, and how many bytes wait. -/
import Derived.Test.YtaopomedbbcgcaaFrF
namespace Go.Proofs.Ytaopomedbbcgcaa
set_option linter.unusedVariables false
namespace Fr
theorem size_cons (x : Fp) (l : List Fp) : size (x :: l) = x.tx.length + size l := by simp [size]
theorem size_snoc (x : Fp) (l : List Fp) : size (l ++ [x]) = size l + x.tx.length := by simp [size]
theorem size_set : ∀ (l : List Fp) (k : Nat) (x y : Fp), l[k]? = some x → size (l.set k y) + x.tx.length = size l + y.tx.length
  | [], _, _, _, h => by simp at h
  | a :: l, 0, x, y, h => by
    simp at h
    subst h
    rw [List.set_cons_zero, size_cons, size_cons]
    omega
  | a :: l, k + 1, x, y, h => by
    have ih := size_set l k x y (by simpa using h)
    rw [List.set_cons_succ, size_cons, size_cons]
    omega
theorem size_app (a b : List Fp) : size (a ++ b) = size a + size b := by simp [size]
theorem size_take (l : List Fp) (k : Nat) {x : Fp} (h : l[k]? = some x) : size (l.take (k + 1)) = size (l.take k) + x.tx.length := by
  rw [List.take_add_one, h]
  exact size_snoc x _
theorem size_take_le (l : List Fp) : ∀ k, size (l.take k) ≤ size l := fun k => by
  conv => rhs; rw [← List.take_append_drop k l, size_app]
  omega
theorem size_full (l : List Fp) : size (l.filter fun x => !(x.tx == [])) = size l := by
  induction l with
  | nil => rfl
  | cons x l ih =>
    rw [List.filter_cons, size_cons]
    by_cases h : x.tx = []
    · rw [if_neg (by simp [h]), ih, h]; simp
    · rw [if_pos (by simpa using h), size_cons, ih]
theorem blank_size {l : List Fp} {r : List Nat} (hn : r.Nodup) (ha : ∀ i ∈ r, i < l.length) : ∀ q, q ≤ r.length → size (blank l (r.take q)) + (texts l (r.take q)).length = size l
  | 0, _ => by rw [List.take_zero, blank_nil]; simp [texts]
  | q + 1, hq => by
    have ih := blank_size hn ha q (by omega)
    obtain ⟨k, hk⟩ : ∃ k, r[q]? = some k := ⟨_, List.getElem?_eq_getElem (by omega)⟩
    have hkl := ha k (List.mem_of_getElem? hk)
    obtain ⟨x, hx⟩ : ∃ x, l[k]? = some x := ⟨_, List.getElem?_eq_getElem hkl⟩
    have hnin : k ∉ r.take q := fun hm => by
      obtain ⟨j, hj, e⟩ := List.getElem_of_mem hm
      rw [List.length_take] at hj
      rw [List.getElem_take] at e
      have h1 := List.pairwise_iff_getElem.1 (List.nodup_iff_pairwise_ne.1 hn) j q (by omega) (by omega) (by omega)
      obtain ⟨hq2, e2⟩ := List.getElem?_eq_some_iff.1 hk
      exact h1 (by rw [e, e2])
    have hxb : (blank l (r.take q))[k]? = some x := by rw [blank_get, hx]; simp [hnin]
    have htk : r.take (q + 1) = r.take q ++ [k] := by rw [List.take_add_one, hk]; rfl
    have h2 := size_set (blank l (r.take q)) k x x.bare hxb
    rw [blank_set hx] at h2
    rw [htk, texts_snoc hx, List.length_append]
    have h3 : x.bare.tx.length = 0 := rfl
    omega
theorem rest_size {l : List Fp} {r : List Nat} (hf : ∀ x ∈ l, x.tx ≠ []) (hn : r.Nodup) (ha : ∀ i ∈ r, i < l.length) : size (rest l r) + (texts l r).length = size l := by
  have h := blank_size hn ha r.length (Nat.le_refl _)
  rw [List.take_length] at h
  rw [← rest_blank hf r, size_full]
  exact h
theorem texts_ne {l : List Fp} {r : List Nat} (hf : ∀ x ∈ l, x.tx ≠ []) (hp : 0 < r.length) (ha : ∀ i ∈ r, i < l.length) : texts l r ≠ [] := by
  match r, hp with
  | i :: r, _ =>
    have hi := ha i (by simp)
    obtain ⟨x, hx⟩ : ∃ x, l[i]? = some x := ⟨_, List.getElem?_eq_getElem hi⟩
    have hne := hf x (List.mem_of_getElem? hx)
    unfold texts
    rw [List.flatMap_cons, hx]
    simp [hne]
/-- What 'put' is. -/
theorem put_cases {b : List Fp} {p : Fp} (hg : Good b) (hp : 0 ≤ p.tsn ∧ p.tsn < M) (hb : b.length ≤ 1000) :
    ((p.tx = [] ∨ (find b p.tsn).isSome = true) ∧ put b p = (b, Mg.zero, false)) ∨ (p.tx ≠ [] ∧ put b p = (b ++ [p], Mg.zero, false)) ∨ ∃ r, Places (b ++ [p]) r ∧ Good (b ++ [p]) ∧ put b p = (rest (b ++ [p]) r, msg (b ++ [p]) r, true) := by
  by_cases h1 : p.tx = []
  · exact .inl ⟨.inl h1, put_empty h1⟩
  cases h2 : (find b p.tsn).isSome with
  | true => exact .inl ⟨.inr (by simp), put_again h2⟩
  | false =>
    have h3 : find b p.tsn = none := by cases h : find b p.tsn with
      | none => rfl
      | some i => rw [h] at h2; cases h2
    have hl : (b ++ [p]).length = b.length + 1 := by simp
    rw [put_new h1 h3]
    cases hr : row (b ++ [p]) p with
    | none => exact .inr (.inl ⟨h1, rfl⟩)
    | some r => exact .inr (.inr ⟨r, row_places hp (by omega) hr, hg.snoc hp h1 h3, rfl⟩)
theorem mem_msg {l : List Fp} {r : List Nat} (pl : Places l r) : (msg l r).tx = texts l r := by
  obtain ⟨k, hk⟩ : ∃ k, r[0]? = some k := ⟨_, List.getElem?_eq_getElem pl.pos⟩
  obtain ⟨x, hx⟩ : ∃ x, l[k]? = some x := ⟨_, List.getElem?_eq_getElem (pl.at_ k (List.mem_of_getElem? hk))⟩
  rw [msg_eq hk hx]
/-- What it keeps. -/
structure Puts (b : List Fp) (p : Fp) (c : List Fp) (m : Mg) (y : Bool) : Prop where
  good : Good c
  sub : ∀ x ∈ c, x ∈ b ++ [p]
  len : c.length ≤ b.length + 1
  said : y = !(m.tx == [])
  size : size c + m.tx.length = size b + (if y = true ∨ b.length < c.length then p.tx.length else 0)
theorem put_puts {b : List Fp} {p : Fp} (hg : Good b) (hp : 0 ≤ p.tsn ∧ p.tsn < M) (hb : b.length ≤ 1000) : Puts b p (put b p).1 (put b p).2.1 (put b p).2.2 := by
  have hgp := put_good hg hp
  rcases put_cases hg hp hb with ⟨_, h⟩ | ⟨_, h⟩ | ⟨r, pl, hg2, h⟩
  · rw [h] at hgp ⊢
    exact ⟨hg, fun x hx => List.mem_append_left _ hx, by simp, by simp [Mg.zero], by simp [Mg.zero]⟩
  · rw [h] at hgp ⊢
    refine ⟨hgp, fun x hx => hx, by simp, rfl, ?_⟩
    simp only [size_snoc]
    rw [if_pos (.inr (by simp))]
    rfl
  · rw [h] at hgp ⊢
    have hs := (rest_sub (b ++ [p]) r)
    have hne := texts_ne hg2.full pl.pos pl.at_
    have hz := rest_size hg2.full pl.one pl.at_
    refine ⟨hgp, fun x hx => hs.subset hx, by have := hs.length_le; simpa using this, ?_, ?_⟩
    · rw [mem_msg pl]; simpa using hne
    · simp only
      rw [mem_msg pl, if_pos (.inl trivial), hz, size_snoc]
theorem texts_most {b : List Fp} {p : Fp} {c : List Fp} {m : Mg} {y : Bool} (h : Puts b p c m y) : size c ≤ size b + p.tx.length ∧ m.tx.length ≤ size b + p.tx.length := by
  have := h.size
  split at this <;> omega
end Fr
end Go.Proofs.Ytaopomedbbcgcaa
