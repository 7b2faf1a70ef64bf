/- Messages of streams come in any order: what is so of the queue after each, in plain Lean. -/
import Derived.Test.YtegefnidhdicdaaOrdSum
namespace Go.Proofs.Ytegefnidhdicdaa
open Go.RowKit
set_option linter.unusedVariables false

theorem findF_iff (s x : Int) (xs : List Msg) : 0 ≤ findF s x xs ↔ ∃ m ∈ xs, m.stream = s ∧ m.ssn = x := by
  unfold findF idx
  by_cases h : xs.findIdx (fun m => m.stream == s && m.ssn == x) < xs.length
  · rw [if_pos h]
    obtain ⟨m, hm, hp⟩ := List.findIdx_lt_length.1 h
    exact ⟨fun _ => ⟨m, hm, by simpa using hp⟩, fun _ => by omega⟩
  · rw [if_neg h]
    exact ⟨fun h' => by omega, fun ⟨m, hm, h1, h2⟩ => absurd (List.findIdx_lt_length.2 ⟨m, hm, by simp [h1, h2]⟩) h⟩
theorem toldF_at (s : Int) : ∀ (f : Nat) (x : Int) (ms : List Msg), 0 ≤ x → x ≤ 65535 →
    (∀ (n : Nat) (y : Msg), (toldF s f x ms).2.2[n]? = some y → y.stream = s ∧ y.ssn = (x + n) % 65536) ∧ (toldF s f x ms).1 = (x + (toldF s f x ms).2.2.length) % 65536 ∧
    (ms.length ≤ f → ∀ m ∈ (toldF s f x ms).2.1, ¬ (m.stream = s ∧ m.ssn = (toldF s f x ms).1))
  | 0, x, ms, h0, h1 => by
    refine ⟨by simp [toldF], by simp [toldF]; omega, fun h m hm => ?_⟩
    have : ms = [] := List.eq_nil_of_length_eq_zero (by omega)
    subst this
    simp [toldF] at hm
  | f + 1, x, ms, h0, h1 => by
    cases hf : ms.find? (fun m => m.stream == s && m.ssn == x) with
    | none =>
      have he : toldF s (f + 1) x ms = (x, ms, []) := by rw [toldF, hf]
      rw [he]
      refine ⟨by simp, by simp; omega, fun _ m hm hh => ?_⟩
      have := List.find?_eq_none.1 hf m hm
      simp [hh.1, hh.2] at this
    | some m =>
      have hp := List.find?_some hf
      have hm := List.mem_of_find?_eq_some hf
      simp at hp
      obtain ⟨ih1, ih2, ih3⟩ := toldF_at s f ((x + 1) % 65536) (ms.eraseIdx (ms.findIdx (fun m => m.stream == s && m.ssn == x))) (by omega) (by omega)
      have he : toldF s (f + 1) x ms = ((toldF s f ((x + 1) % 65536) (ms.eraseIdx (ms.findIdx (fun m => m.stream == s && m.ssn == x)))).1,
        (toldF s f ((x + 1) % 65536) (ms.eraseIdx (ms.findIdx (fun m => m.stream == s && m.ssn == x)))).2.1,
        m :: (toldF s f ((x + 1) % 65536) (ms.eraseIdx (ms.findIdx (fun m => m.stream == s && m.ssn == x)))).2.2) := by rw [toldF, hf]
      rw [he]
      have hlen : (ms.eraseIdx (ms.findIdx (fun m => m.stream == s && m.ssn == x))).length = ms.length - 1 := by
        rw [List.length_eraseIdx, if_pos]
        exact List.findIdx_lt_length.2 ⟨m, hm, by simp [hp.1, hp.2]⟩
      refine ⟨fun n y hy => ?_, ?_, fun h => ih3 (by omega)⟩
      · cases n with
        | zero =>
          simp at hy
          subst hy
          exact ⟨hp.1, by rw [hp.2]; simp; omega⟩
        | succ n =>
          simp only [List.getElem?_cons_succ] at hy
          obtain ⟨g1, g2⟩ := ih1 n y hy
          exact ⟨g1, by rw [g2]; omega⟩
      · simp only [List.length_cons]
        rw [ih2]; omega

def ssm (s x : Int) : Msg := ⟨0, false, s, x, 0, ⟨#[109]⟩⟩
/-- What is so of the queue, of what came, and of how many were told of each stream. -/
structure Run (fs : List Int) (k : Nat) (next : List Int) (wait : List Msg) (came : List Bool) (told : List Nat) : Prop where
  lf : fs.length = k
  ln : next.length = k
  lc : came.length = k * 20
  lt : told.length = k
  fr : ∀ t, t < k → 0 ≤ fs.getD t 0 ∧ fs.getD t 0 ≤ 65535
  nx : ∀ t, t < k → next.getD t 0 = (fs.getD t 0 + told.getD t 0) % 65536
  most : ∀ t, t < k → told.getD t 0 ≤ 20
  low : ∀ t, t < k → ∀ j, j < told.getD t 0 → came.getD (t * 20 + j) false = true
  top : ∀ t, t < k → told.getD t 0 < 20 → came.getD (t * 20 + told.getD t 0) false = false
  w1 : ∀ m ∈ wait, ∃ t j : Nat, t < k ∧ j < 20 ∧ m.stream = t ∧ m.ssn = (fs.getD t 0 + j) % 65536 ∧ came.getD (t * 20 + j) false = true ∧ told.getD t 0 ≤ j
  w2 : ∀ t, t < k → ∀ j, j < 20 → came.getD (t * 20 + j) false = true → told.getD t 0 ≤ j → ∃ m ∈ wait, m.stream = t ∧ m.ssn = (fs.getD t 0 + j) % 65536
  w3 : wait.Pairwise (fun a b => ¬ (a.stream = b.stream ∧ a.ssn = b.ssn))

theorem getD_set {α : Type} (l : List α) (i j : Nat) (a d : α) (hi : i < l.length) : (l.set i a).getD j d = if i = j then a else l.getD j d := by
  simp only [List.getD_eq_getElem?_getD, List.getElem?_set]
  by_cases h : i = j
  · subst h; simp [hi]
  · simp [h]

theorem Run.new (fs : List Int) (k : Nat) (lf : fs.length = k) (fr : ∀ t, t < k → 0 ≤ fs.getD t 0 ∧ fs.getD t 0 ≤ 65535) : Run fs k fs [] (List.replicate (k * 20) false) (List.replicate k 0) := by
  have h1 : ∀ t : Nat, (List.replicate k 0).getD t 0 = 0 := fun t => by
    simp only [List.getD_eq_getElem?_getD, List.getElem?_replicate]; split <;> rfl
  have h2 : ∀ t : Nat, (List.replicate (k * 20) false).getD t false = false := fun t => by
    simp only [List.getD_eq_getElem?_getD, List.getElem?_replicate]; split <;> rfl
  refine ⟨lf, lf, by simp, by simp, fr, fun t ht => ?_, fun t ht => ?_, fun t ht j hj => ?_, fun t ht _ => h2 _, by simp, fun t ht j hj hc => ?_, .nil⟩
  · have := fr t ht
    rw [h1]; omega
  · rw [h1]; omega
  · rw [h1] at hj; omega
  · rw [h2] at hc; cases hc

theorem sd16_of {a b d : Int} (h : (a - b) % 65536 = d % 65536) (h0 : -32768 ≤ d) (h1 : d ≤ 32767) : sd16 (a - b) = d := by rw [sd16_eq]; omega
theorem late_is {F t j : Int} (ht : 0 ≤ t ∧ t ≤ 20) (hj : 0 ≤ j ∧ j ≤ 20) : lateB ((F + j) % 65536) ((F + t) % 65536) = decide (j < t) := by
  unfold lateB
  rw [sd16_of (d := j - t) (by omega) (by omega) (by omega)]
  exact decide_eq_decide.2 (by omega)

/-- A message that came already is refused; another one is told, or waits. -/
theorem Run.step {fs next : List Int} {k s j : Nat} {wait : List Msg} {came : List Bool} {told : List Nat} (h : Run fs k next wait came told) (hs : s < k) (hj : j < 20) :
    (came.getD (s * 20 + j) false = true → (putF next wait (ssm s ((fs.getD s 0 + j) % 65536))).1 = 9) ∧
    (came.getD (s * 20 + j) false = false → (putF next wait (ssm s ((fs.getD s 0 + j) % 65536))).1 = 0 ∧
      (∀ (n : Nat) (y : Msg), (putF next wait (ssm s ((fs.getD s 0 + j) % 65536))).2.2.2[n]? = some y → y.stream = s ∧ y.ssn = (fs.getD s 0 + told.getD s 0 + n) % 65536) ∧
      Run fs k (putF next wait (ssm s ((fs.getD s 0 + j) % 65536))).2.1 (putF next wait (ssm s ((fs.getD s 0 + j) % 65536))).2.2.1 (came.set (s * 20 + j) true)
        (told.set s (told.getD s 0 + (putF next wait (ssm s ((fs.getD s 0 + j) % 65536))).2.2.2.length)) ∧ told.getD s 0 + (putF next wait (ssm s ((fs.getD s 0 + j) % 65536))).2.2.2.length ≤ 20) := by
  obtain ⟨hf0, hf1⟩ := h.fr s hs
  have hnx := h.nx s hs
  have hmost := h.most s hs
  have hlate : lateB ((fs.getD s 0 + (j : Int)) % 65536) (next.getD s 0) = decide ((j : Int) < told.getD s 0) := by
    rw [hnx]; exact late_is (by omega) (by omega)
  have hfind : (0 ≤ findF s ((fs.getD s 0 + (j : Int)) % 65536) wait) ↔ (came.getD (s * 20 + j) false = true ∧ told.getD s 0 ≤ j) := by
    rw [findF_iff]
    constructor
    · rintro ⟨m, hm, h1, h2⟩
      obtain ⟨t, i, ht, hi, g1, g2, g3, g4⟩ := h.w1 m hm
      obtain rfl : t = s := by omega
      obtain rfl : i = j := by omega
      exact ⟨g3, g4⟩
    · rintro ⟨g1, g2⟩
      exact h.w2 s hs j hj g1 g2
  have hst : ¬ ((next.length : Int) ≤ (ssm s ((fs.getD s 0 + j) % 65536)).stream) := by rw [h.ln]; simp only [ssm]; omega
  have hput : putF next wait (ssm s ((fs.getD s 0 + j) % 65536)) = if lateB ((fs.getD s 0 + j) % 65536) (next.getD s 0) = true ∨ 0 ≤ findF s ((fs.getD s 0 + j) % 65536) wait then (9, [], [], []) else
      (0, next.set s (toldF s (wait ++ [ssm s ((fs.getD s 0 + j) % 65536)]).length (next.getD s 0) (wait ++ [ssm s ((fs.getD s 0 + j) % 65536)])).1,
        (toldF s (wait ++ [ssm s ((fs.getD s 0 + j) % 65536)]).length (next.getD s 0) (wait ++ [ssm s ((fs.getD s 0 + j) % 65536)])).2.1,
        (toldF s (wait ++ [ssm s ((fs.getD s 0 + j) % 65536)]).length (next.getD s 0) (wait ++ [ssm s ((fs.getD s 0 + j) % 65536)])).2.2) := by
    unfold putF
    rw [if_neg hst, if_neg (by simp [ssm])]
    rfl
  constructor
  · intro hc
    rw [hput, if_pos]
    by_cases hl : j < told.getD s 0
    · exact .inl (by rw [hlate]; exact decide_eq_true (by omega))
    · exact .inr (hfind.2 ⟨hc, by omega⟩)
  · intro hc
    have hjt : told.getD s 0 ≤ j := by
      rcases Nat.lt_or_ge j (told.getD s 0) with hl | hl
      · have := h.low s hs j hl
        rw [hc] at this; cases this
      · exact hl
    rw [hput, if_neg (by
      rintro (hl | hl)
      · rw [hlate] at hl; have := of_decide_eq_true hl; omega
      · have := (hfind.1 hl).1
        rw [hc] at this; cases this)]
    generalize hmm : ssm s ((fs.getD s 0 + j) % 65536) = m
    have hms : m.stream = s := by rw [← hmm]; rfl
    have hmn : m.ssn = (fs.getD s 0 + j) % 65536 := by rw [← hmm]; rfl
    have hx0 : 0 ≤ next.getD s 0 := by omega
    have hx1 : next.getD s 0 ≤ 65535 := by omega
    obtain ⟨ha, hb, hcc⟩ := toldF_at s (wait ++ [m]).length (next.getD s 0) (wait ++ [m]) hx0 hx1
    have hcc := hcc (Nat.le_refl _)
    have hp := toldF_perm s (wait ++ [m]).length (next.getD s 0) (wait ++ [m])
    generalize (toldF s (wait ++ [m]).length (next.getD s 0) (wait ++ [m])).1 = x' at hb hcc ⊢
    generalize (toldF s (wait ++ [m]).length (next.getD s 0) (wait ++ [m])).2.1 = rest at hcc hp ⊢
    generalize (toldF s (wait ++ [m]).length (next.getD s 0) (wait ++ [m])).2.2 = l at ha hb hp ⊢
    rw [hnx] at ha hb
    have hmem : ∀ y, y ∈ l ++ rest ↔ y ∈ wait ++ [m] := fun y => hp.mem_iff
    -- where a message of the new list belongs
    have hw : ∀ y ∈ wait ++ [m], ∃ t i : Nat, t < k ∧ i < 20 ∧ y.stream = t ∧ y.ssn = (fs.getD t 0 + i) % 65536 ∧ (came.set (s * 20 + j) true).getD (t * 20 + i) false = true ∧ told.getD t 0 ≤ i := by
      intro y hy
      rcases List.mem_append.1 hy with hy | hy
      · obtain ⟨t, i, ht, hi, g1, g2, g3, g4⟩ := h.w1 y hy
        refine ⟨t, i, ht, hi, g1, g2, ?_, g4⟩
        rw [getD_set _ _ _ _ _ (by rw [h.lc]; omega)]
        split
        · rfl
        · exact g3
      · simp only [List.mem_singleton] at hy
        subst hy
        exact ⟨s, j, hs, hj, hms, hmn, by rw [getD_set _ _ _ _ _ (by rw [h.lc]; omega), if_pos rfl], hjt⟩
    have hin : ∀ n, n < l.length → told.getD s 0 + n < 20 ∧ (came.set (s * 20 + j) true).getD (s * 20 + (told.getD s 0 + n)) false = true := by
      intro n
      induction n with
      | zero =>
        intro hn
        obtain ⟨t, i, ht, hi, g1, g2, g3, g4⟩ := hw _ ((hmem l[0]).1 (List.mem_append_left _ (List.getElem_mem hn)))
        obtain ⟨e1, e2⟩ := ha 0 _ (List.getElem?_eq_getElem hn)
        obtain rfl : t = s := by omega
        obtain rfl : told.getD t 0 + 0 = i := by omega
        exact ⟨hi, g3⟩
      | succ n ih =>
        intro hn
        have := (ih (by omega)).1
        obtain ⟨t, i, ht, hi, g1, g2, g3, g4⟩ := hw _ ((hmem l[n + 1]).1 (List.mem_append_left _ (List.getElem_mem hn)))
        obtain ⟨e1, e2⟩ := ha (n + 1) _ (List.getElem?_eq_getElem hn)
        obtain rfl : t = s := by omega
        obtain rfl : told.getD t 0 + (n + 1) = i := by omega
        exact ⟨hi, g3⟩
    have hT : told.getD s 0 + l.length ≤ 20 := by
      rcases Nat.eq_zero_or_pos l.length with h0 | h0
      · omega
      · have := (hin (l.length - 1) (by omega)).1
        omega
    have hat : ∀ y ∈ l, ∃ n : Nat, n < l.length ∧ y.stream = s ∧ y.ssn = (fs.getD s 0 + (told.getD s 0 + n : Nat)) % 65536 := by
      intro y hy
      obtain ⟨n, hn, rfl⟩ := List.getElem_of_mem hy
      obtain ⟨e1, e2⟩ := ha n _ (List.getElem?_eq_getElem hn)
      exact ⟨n, hn, e1, by rw [e2]; omega⟩
    have hpw : (l ++ rest).Pairwise (fun a b => ¬ (a.stream = b.stream ∧ a.ssn = b.ssn)) := by
      rw [hp.pairwise_iff (fun h e => h ⟨e.1.symm, e.2.symm⟩), List.pairwise_append]
      refine ⟨h.w3, List.pairwise_singleton _ _, fun a ha b hb e => ?_⟩
      simp only [List.mem_singleton] at hb
      subst hb
      have : ¬ (0 ≤ findF s ((fs.getD s 0 + (j : Int)) % 65536) wait) := fun hl => by
        have := (hfind.1 hl).1
        rw [hc] at this; cases this
      exact this ((findF_iff _ _ _).2 ⟨a, ha, by rw [e.1, hms], by rw [e.2, hmn]⟩)
    rw [List.pairwise_append] at hpw
    obtain ⟨_, hpr, hcross⟩ := hpw
    have hcl : s * 20 + j < came.length := by rw [h.lc]; omega
    have htl : s < told.length := by rw [h.lt]; exact hs
    have hnl : s < next.length := by rw [h.ln]; exact hs
    have hold : ∀ t i, t < k → i < 20 → (came.set (s * 20 + j) true).getD (t * 20 + i) false = true → told.getD t 0 ≤ i → ∃ y ∈ wait ++ [m], y.stream = t ∧ y.ssn = (fs.getD t 0 + i) % 65536 := by
      intro t i ht hi hci hti
      rw [getD_set _ _ _ _ _ hcl] at hci
      split at hci
      · rename_i e
        obtain rfl : s = t := by omega
        obtain rfl : j = i := by omega
        exact ⟨m, by simp, hms, hmn⟩
      · obtain ⟨y, hy, g⟩ := h.w2 t ht i hi hci hti
        exact ⟨y, by simp [hy], g⟩
    refine ⟨rfl, fun n y hy => ?_, ⟨h.lf, by simp [h.ln], by simp [h.lc], by simp [h.lt], h.fr, ?_, ?_, ?_, ?_, ?_, ?_, hpr⟩, hT⟩
    · obtain ⟨e1, e2⟩ := ha n y hy
      exact ⟨e1, by rw [e2]; omega⟩
    · intro t ht
      rw [getD_set _ _ _ _ _ hnl, getD_set _ _ _ _ _ htl]
      split
      · rename_i e
        subst e
        rw [hb]; omega
      · exact h.nx t ht
    · intro t ht
      rw [getD_set _ _ _ _ _ htl]
      split
      · exact hT
      · exact h.most t ht
    · intro t ht i hi
      rw [getD_set _ _ _ _ _ htl] at hi
      split at hi
      · rename_i e
        subst e
        rcases Nat.lt_or_ge i (told.getD s 0) with hlo | hlo
        · rw [getD_set _ _ _ _ _ hcl]
          split
          · rfl
          · exact h.low s hs i hlo
        · have := (hin (i - told.getD s 0) (by omega)).2
          rwa [show told.getD s 0 + (i - told.getD s 0) = i from by omega] at this
      · rw [getD_set _ _ _ _ _ hcl]
        split
        · rfl
        · exact h.low t ht i hi
    · intro t ht hlt
      rw [getD_set _ _ _ _ _ htl] at hlt ⊢
      split at hlt
      · rename_i e
        subst e
        rw [if_pos rfl]
        cases hv : (came.set (s * 20 + j) true).getD (s * 20 + (told.getD s 0 + l.length)) false with
        | false => rfl
        | true =>
          obtain ⟨y, hy, g1, g2⟩ := hold s _ hs hlt hv (by omega)
          rcases List.mem_append.1 ((hmem y).2 hy) with hy | hy
          · obtain ⟨n, hn, e1, e2⟩ := hat y hy
            omega
          · exact absurd ⟨g1, by rw [g2, hb]; omega⟩ (hcc y hy)
      · rename_i e
        rw [if_neg e, getD_set _ _ _ _ _ hcl, if_neg (by omega)]
        exact h.top t ht hlt
    · intro y hy
      obtain ⟨t, i, ht, hi, g1, g2, g3, g4⟩ := hw y ((hmem y).1 (List.mem_append_right _ hy))
      refine ⟨t, i, ht, hi, g1, g2, g3, ?_⟩
      rw [getD_set _ _ _ _ _ htl]
      split
      · rename_i e
        subst e
        rcases Nat.lt_or_ge i (told.getD s 0 + l.length) with hlo | hlo
        · have hn : i - told.getD s 0 < l.length := by omega
          obtain ⟨e1, e2⟩ := ha _ _ (List.getElem?_eq_getElem hn)
          exact absurd ⟨by rw [e1, g1], by rw [e2, g2]; omega⟩ (hcross _ (List.getElem_mem hn) y hy)
        · exact hlo
      · exact g4
    · intro t ht i hi hci hti
      rw [getD_set _ _ _ _ _ htl] at hti
      have hti' : told.getD t 0 ≤ i := by
        split at hti
        · rename_i e
          subst e
          omega
        · exact hti
      obtain ⟨y, hy, g1, g2⟩ := hold t i ht hi hci hti'
      rcases List.mem_append.1 ((hmem y).2 hy) with hy | hy
      · obtain ⟨n, hn, e1, e2⟩ := hat y hy
        obtain rfl : t = s := by omega
        rw [if_pos rfl] at hti
        omega
      · exact ⟨y, hy, g1, g2⟩
end Go.Proofs.Ytegefnidhdicdaa
