/- Numbers that come, in whatever order: plain facts. -/
import Derived.Test.YthbhjnmkbmmcnaaGtM
namespace Go.Proofs.Ythbhjnmkbmmcnaa
set_option linter.unusedVariables false
namespace Gt
/-- What is taken is there. -/
theorem take_has {g : G} (h : g.Ok) {n : Int} (hn : 0 ≤ n ∧ n < M) (ht : ¬ (has g.D (ds g.c n) = false ∧ 4000 < ds g.c n)) : has (take g n).1.D (ds (take g n).1.c n) = true := by
  unfold take
  cases hh : has g.D (ds g.c n) with
  | true => rw [if_pos rfl]; exact hh
  | false =>
    rw [if_neg (by simp)]
    have h4 : ¬ 4000 < ds g.c n := fun h4 => ht ⟨hh, h4⟩
    rw [if_neg h4]
    obtain ⟨a1, a2, a3, _⟩ := ins_facts h.D hh (by omega)
    have hm := run_mem a1 a2 (e := ds g.c n)
    have hin : ds g.c n ∈ insD (ds g.c n) g.D := mem_insD.2 (.inl rfl)
    have htm := trim_mem a1 a2 (d := ds g.c n - run 0 (insD (ds g.c n) g.D))
    have hup := up_ds (c := g.c) hn
    generalize hE : insD (ds g.c n) g.D = E at *
    generalize hd : ds g.c n = d at *
    rcases hm.1 hin with ⟨h1, h2⟩ | h1
    · have hrl : run 0 E ≤ E.length := (run_spec 0 E a1 a2).1
      have hR : run 0 E ≤ 4000 := by
        have := (run_spec 0 E a1 a2).2.1 (run 0 E - 1) (by omega)
        have := a3 _ (List.mem_of_getElem? this)
        omega
      have e : ds (up g.c (run 0 E)) n = 0 ∨ 2147483648 < ds (up g.c (run 0 E)) n := by
        rw [← hup]
        unfold ds up M
        omega
      unfold has
      rcases e with e | e
      · simp [e]
      · simp [e]
    · have h3 := (run_spec 0 E a1 a2).2.2 d h1
      have e : ds (up g.c (run 0 E)) n = d - run 0 E := by
        rw [← hup]
        have := a3 d hin
        unfold ds up M
        omega
      have hmem : d - run 0 E ∈ trim E := htm.2 ⟨by omega, by rw [show run 0 E + (d - run 0 E) = d by omega]; exact hin⟩
      unfold has
      simp only
      rw [e]
      simp [hmem]
theorem take_far {g : G} {n : Int} (h1 : has g.D (ds g.c n) = false) (h2 : 4000 < ds g.c n) : take g n = (g, false) := by
  unfold take
  rw [h1, if_neg (by simp), if_pos h2]
theorem take_old {g : G} {n : Int} (h1 : has g.D (ds g.c n) = true) : take g n = (⟨g.c, g.D, if g.du.length < 100 then g.du ++ [n] else g.du⟩, false) := by
  unfold take
  rw [if_pos h1]
theorem Ok.rt {c : Int} {D : List Nat} (h : Ok D) : Rt c (ab c D) := fun i x hx => by
  unfold ab at hx
  rw [List.getElem?_map] at hx
  cases hd : D[i]? with
  | none => rw [hd] at hx; cases hx
  | some d =>
    rw [hd] at hx
    obtain rfl := Option.some.inj hx
    have hm := List.mem_of_getElem? hd
    have h1 := h.lo d hm
    have h2 := h.hi d hm
    rw [ds_up (by omega)]
    refine ⟨h1, h2, fun y hi hy => ?_⟩
    unfold ab at hy
    rw [List.getElem?_map] at hy
    cases he : D[i - 1]? with
    | none => rw [he] at hy; cases hy
    | some e =>
      rw [he] at hy
      obtain rfl := Option.some.inj hy
      have h3 := h.hi e (List.mem_of_getElem? he)
      rw [ds_up (by omega)]
      obtain ⟨k1, e1⟩ := List.getElem?_eq_some_iff.1 he
      obtain ⟨k2, e2⟩ := List.getElem?_eq_some_iff.1 hd
      have := List.pairwise_iff_getElem.1 h.up (i - 1) i k1 k2 (by omega)
      omega
/-- What came, as places behind a first number. -/
structure Pl (first : Int) (S : List Nat) (cnt : Nat) (g : G) : Prop where
  ok : g.Ok
  small : ∀ a ∈ S, a < 64
  cntle : cnt ≤ 64
  c : g.c = (first - 1 + (cnt : Int)) % M
  below : ∀ a, a < cnt → a ∈ S
  next : cnt ∉ S
  D : ∀ d, d ∈ g.D ↔ 1 < d ∧ cnt + d - 1 ∈ S
  len : S.length = cnt + g.D.length
theorem Pl.start (first : Int) : Pl first [] 0 ⟨(first - 1) % M, [], []⟩ :=
  ⟨⟨by show 0 ≤ (first - 1) % M ∧ (first - 1) % M < M; unfold M; omega, Ok.nil, by simp⟩, by simp, by omega, by simp, fun a h => absurd h (by omega), by simp, fun d => by simp, rfl⟩
theorem Pl.dist {first : Int} {S : List Nat} {cnt : Nat} {g : G} (h : Pl first S cnt g) {a : Nat} (ha : a < 64) : (a < cnt → ds g.c (up first a) = 0 ∨ 2147483648 < ds g.c (up first a)) ∧ (cnt ≤ a → ds g.c (up first a) = a + 1 - cnt) := by
  rw [h.c]
  have := h.cntle
  constructor
  · intro h1
    unfold ds up M
    omega
  · intro h1
    unfold ds up M
    omega
theorem Pl.has_iff {first : Int} {S : List Nat} {cnt : Nat} {g : G} (h : Pl first S cnt g) {a : Nat} (ha : a < 64) : has g.D (ds g.c (up first a)) = true ↔ a ∈ S := by
  obtain ⟨d1, d2⟩ := h.dist ha
  unfold has
  simp only [Bool.or_eq_true, decide_eq_true_eq, List.contains_eq_mem]
  constructor
  · rintro ((h1 | h1) | h1)
    · rcases Nat.lt_or_ge a cnt with h2 | h2
      · exact h.below a h2
      · have := d2 h2; omega
    · rcases Nat.lt_or_ge a cnt with h2 | h2
      · exact h.below a h2
      · have := d2 h2; omega
    · rcases Nat.lt_or_ge a cnt with h2 | h2
      · exact h.below a h2
      · rw [d2 h2] at h1
        have := (h.D _).1 h1
        rw [show cnt + (a + 1 - cnt) - 1 = a by omega] at this
        exact this.2
  · intro hm
    rcases Nat.lt_or_ge a cnt with h2 | h2
    · exact .inl (d1 h2)
    · have hne : a ≠ cnt := fun e => h.next (e ▸ hm)
      right
      rw [d2 h2]
      exact (h.D _).2 ⟨by omega, by rw [show cnt + (a + 1 - cnt) - 1 = a by omega]; exact hm⟩
/-- One more comes. -/
theorem Pl.old {first : Int} {S : List Nat} {cnt : Nat} {g : G} (h : Pl first S cnt g) {a : Nat} (ha : a < 64) (hm : a ∈ S) : (take g (up first a)).2 = false ∧ Pl first S cnt (take g (up first a)).1 ∧ (take g (up first a)).1.du = if g.du.length < 100 then g.du ++ [up first a] else g.du := by
  have hok := take_ok h.ok (up first a)
  rw [take_old ((h.has_iff ha).2 hm)] at hok ⊢
  exact ⟨rfl, ⟨hok, h.small, h.cntle, h.c, h.below, h.next, h.D, h.len⟩, rfl⟩
theorem Pl.new {first : Int} {S : List Nat} {cnt : Nat} {g : G} (h : Pl first S cnt g) {a : Nat} (ha : a < 64) (hm : a ∉ S) : (take g (up first a)).2 = true ∧ (∃ cnt', Pl first (S ++ [a]) cnt' (take g (up first a)).1) ∧ (take g (up first a)).1.du = g.du := by
  have hok := take_ok h.ok (up first a)
  have hhas : has g.D (ds g.c (up first a)) = false := by
    cases hh : has g.D (ds g.c (up first a)) with
    | false => rfl
    | true => exact absurd ((h.has_iff ha).1 hh) hm
  have hca : cnt ≤ a := by
    rcases Nat.lt_or_ge a cnt with h2 | h2
    · exact absurd (h.below a h2) hm
    · exact h2
  have hds := (h.dist ha).2 hca
  have e : take g (up first a) = (⟨up g.c (run 0 (insD (ds g.c (up first a)) g.D)), trim (insD (ds g.c (up first a)) g.D), g.du⟩, true) := by
    unfold take
    rw [hhas, if_neg (by simp), if_neg (by omega)]
  rw [e] at hok ⊢
  refine ⟨rfl, ?_, rfl⟩
  obtain ⟨a1, a2, a3, a4⟩ := ins_facts h.ok.D hhas (by omega)
  rw [hds] at hok a1 a2 a3 a4 ⊢
  obtain ⟨r1, r2, r3⟩ := run_spec 0 _ a1 a2
  have hmem : ∀ x, x ∈ insD (a + 1 - cnt) g.D ↔ 0 < x ∧ cnt + x - 1 ∈ S ++ [a] := fun x => by
    rw [mem_insD, h.D, List.mem_append, List.mem_singleton]
    constructor
    · rintro (h1 | ⟨h1, h2⟩)
      · exact ⟨by omega, .inr (by omega)⟩
      · exact ⟨by omega, .inl h2⟩
    · rintro ⟨h1, h2 | h2⟩
      · by_cases hx : x = 1
        · subst hx
          rw [show cnt + 1 - 1 = cnt by omega] at h2
          exact absurd h2 h.next
        · exact .inr ⟨by omega, h2⟩
      · exact .inl (by omega)
  have htm := fun d => trim_mem a1 a2 (d := d)
  have htl := trim_len (E := insD (a + 1 - cnt) g.D)
  have hRe : ∀ j, j < run 0 (insD (a + 1 - cnt) g.D) → j + 1 ∈ insD (a + 1 - cnt) g.D := fun j hj => (run_next a1 a2 (by omega)).2 hj
  have hRn : run 0 (insD (a + 1 - cnt) g.D) + 1 ∉ insD (a + 1 - cnt) g.D := fun hh => by
    have := (run_next a1 a2 (Nat.le_refl _)).1 hh
    omega
  generalize insD (a + 1 - cnt) g.D = E at *
  generalize hR : run 0 E = R at *
  have hsm : ∀ x ∈ S ++ [a], x < 64 := fun x hx => by
    rcases List.mem_append.1 hx with hx | hx
    · exact h.small x hx
    · rw [List.mem_singleton.1 hx]; exact ha
  have hcn : cnt + R ≤ 64 := by
    rcases Nat.eq_zero_or_pos R with h0 | h0
    · have := h.cntle; omega
    · have := hsm _ ((hmem _).1 (hRe (R - 1) (by omega))).2
      omega
  refine ⟨cnt + R, hok, hsm, hcn, ?_, fun b hb => ?_, fun hh => ?_, fun d => ?_, ?_⟩
  · show up g.c R = _
    rw [h.c]
    unfold up M
    push_cast
    omega
  · rcases Nat.lt_or_ge b cnt with h2 | h2
    · exact List.mem_append_left _ (h.below b h2)
    · have := ((hmem (b - cnt + 1)).1 (hRe (b - cnt) (by omega))).2
      rw [show cnt + (b - cnt + 1) - 1 = b by omega] at this
      exact this
  · exact hRn ((hmem _).2 ⟨by omega, by rw [show cnt + (R + 1) - 1 = cnt + R by omega]; exact hh⟩)
  · show d ∈ trim E ↔ _
    rw [htm, hmem]
    constructor
    · rintro ⟨h1, _, h2⟩
      exact ⟨h1, by rw [show cnt + R + d - 1 = cnt + (R + d) - 1 by omega]; exact h2⟩
    · rintro ⟨h1, h2⟩
      exact ⟨h1, by omega, by rw [show cnt + (R + d) - 1 = cnt + R + d - 1 by omega]; exact h2⟩
  · rw [List.length_append, h.len]
    show _ = cnt + R + (trim E).length
    rw [htl, a4]
    simp
    omega
/-- What came in whatever order makes the same. -/
theorem Pl.same {first : Int} {S S' : List Nat} {cnt cnt' : Nat} {g g' : G} (h : Pl first S cnt g) (h' : Pl first S' cnt' g') (he : ∀ a, a ∈ S ↔ a ∈ S') : g.c = g'.c ∧ g.D = g'.D ∧ S.length = S'.length := by
  have hc : cnt = cnt' := by
    rcases Nat.lt_trichotomy cnt cnt' with h1 | h1 | h1
    · exact absurd ((he _).2 (h'.below _ h1)) h.next
    · exact h1
    · exact absurd ((he _).1 (h.below _ h1)) h'.next
  subst hc
  have hD : g.D = g'.D := up_eq h.ok.D.up h'.ok.D.up fun z => by rw [h.D, h'.D, he]
  exact ⟨by rw [h.c, h'.c], hD, by rw [h.len, h'.len, hD]⟩
end Gt
end Go.Proofs.Ythbhjnmkbmmcnaa
