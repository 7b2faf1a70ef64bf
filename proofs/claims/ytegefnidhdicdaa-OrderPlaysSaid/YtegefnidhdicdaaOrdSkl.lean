/- A stream that goes on with a later message: the plain law of OrderSkips. -/
import Derived.Test.YtegefnidhdicdaaOrdRun
import Derived.Test.YtegefnidhdicdaaOrdSkip
namespace Go.Proofs.Ytegefnidhdicdaa
open Go.RowKit
set_option linter.unusedVariables false

theorem late_small {a b : Int} (h0 : -1000 ≤ a - b) (h1 : a - b ≤ 1000) : lateB a b = decide (a < b) := by
  unfold lateB
  rw [sd16_of (d := a - b) rfl (by omega) (by omega)]
  exact decide_eq_decide.2 (by omega)
theorem waits_app (s : Int) (a b : List Msg) : waitsF s (a ++ b) = waitsF s a + waitsF s b := by simp [waitsF]
theorem waits_perm {s : Int} {a b : List Msg} (h : List.Perm a b) : waitsF s a = waitsF s b := h.countP_eq _
theorem waits_all {s : Int} {l : List Msg} (h : ∀ m ∈ l, m.stream = s) : waitsF s l = l.length := by
  unfold waitsF
  rw [List.countP_eq_length]
  intro m hm
  simp [h m hm]
theorem waits_none {s : Int} {l : List Msg} (h : ∀ m ∈ l, m.stream ≠ s) : waitsF s l = 0 := by
  unfold waitsF
  rw [List.countP_eq_zero]
  intro m hm
  simp [h m hm]
theorem keep_waits (wait : List Msg) (to : Int) : waitsF 1 (keepF 0 to wait) = waitsF 1 wait ∧ waitsF 0 (keepF 0 to wait) ≤ waitsF 0 wait := by
  induction wait with
  | nil => simp [keepF, waitsF]
  | cons m l ih =>
    unfold keepF waitsF at ih ⊢
    rw [List.filter_cons]
    generalize l.filter (fun m => !(m.stream == 0 && lateB m.ssn to)) = fl at ih ⊢
    by_cases h0 : m.stream = 0
    · have h1 : (m.stream == 1) = false := by simp [h0]
      have h2 : (m.stream == 0) = true := by simp [h0]
      split
      · simp only [List.countP_cons, h1, h2, if_true]
        simp; omega
      · simp only [List.countP_cons, h1, h2, if_true]
        simp; omega
    · have h2 : (m.stream == 0) = false := by simp [h0]
      rw [h2]
      simp only [Bool.false_and, Bool.not_false, if_true, List.countP_cons, h2]
      simp; omega
/-- What is so when stream 0 went on with a later message. -/
structure Skipped (next : List Int) (wait : List Msg) (at_ x' : Int) (rest l : List Msg) : Prop where
  told : ∀ (n : Nat) (y : Msg), l[n]? = some y → y.stream = 0 ∧ y.ssn = (at_ + n) % 65536
  next0 : x' = (at_ + l.length) % 65536
  w1 : waitsF 1 rest = waitsF 1 wait
  w0 : l.length + waitsF 0 rest ≤ waitsF 0 wait
  behind : ∀ m ∈ rest, m.stream = 0 → x' < m.ssn
  sub : ∀ m, m ∈ rest ∨ m ∈ l → m ∈ wait
  small : ∀ m ∈ rest, 0 ≤ m.ssn ∧ m.ssn < 20
  len : rest.length ≤ wait.length
theorem Run.skip {next : List Int} {wait : List Msg} {came : List Bool} {told : List Nat} {at_ : Int} {t : Nat} (h : Run [0, 0] 2 next wait came told) (ht : t < 12) (ha : at_ = next.getD 0 0 + t) :
    (0 ≤ next.getD 0 0 ∧ next.getD 0 0 ≤ 20) ∧ lateB at_ (next.getD 0 0) = false ∧
    Skipped next wait at_ (toldF 0 (keepF 0 at_ wait).length at_ (keepF 0 at_ wait)).1 (toldF 0 (keepF 0 at_ wait).length at_ (keepF 0 at_ wait)).2.1 (toldF 0 (keepF 0 at_ wait).length at_ (keepF 0 at_ wait)).2.2 := by
  have hn := h.nx 0 (by omega)
  have hm := h.most 0 (by omega)
  have hf : ([0, 0] : List Int).getD 0 0 = 0 := rfl
  rw [hf] at hn
  have hb : 0 ≤ next.getD 0 0 ∧ next.getD 0 0 ≤ 20 := by omega
  refine ⟨hb, ?_, ?_⟩
  · rw [late_small (by omega) (by omega)]
    exact decide_eq_false (by omega)
  generalize hM : keepF 0 at_ wait = M
  obtain ⟨g1, g2, g3⟩ := toldF_at 0 M.length at_ M (by omega) (by omega)
  have g3 := g3 (Nat.le_refl _)
  have hp := toldF_perm 0 M.length at_ M
  generalize (toldF 0 M.length at_ M).1 = x' at g2 g3 ⊢
  generalize (toldF 0 M.length at_ M).2.1 = rest at g3 hp ⊢
  generalize (toldF 0 M.length at_ M).2.2 = l at g1 g2 hp ⊢
  have hsub : ∀ m, m ∈ rest ∨ m ∈ l → m ∈ M := fun m hm => hp.mem_iff.1 (List.mem_append.2 hm.symm)
  have hMw : ∀ m ∈ M, m ∈ wait := fun m hm => by rw [← hM] at hm; exact (List.mem_filter.1 hm).1
  have hssn : ∀ m ∈ wait, 0 ≤ m.ssn ∧ m.ssn < 20 := fun m hm => by
    obtain ⟨s, j, hs, hj, _, e, _⟩ := h.w1 m hm
    have hfs : ([0, 0] : List Int).getD s 0 = 0 := by
      have : s = 0 ∨ s = 1 := by omega
      rcases this with rfl | rfl <;> rfl
    rw [hfs] at e
    omega
  have hkeep : ∀ m ∈ M, m.stream = 0 → at_ ≤ m.ssn := fun m hm h0 => by
    rw [← hM] at hm
    have h1 := (List.mem_filter.1 hm).2
    have h2 := hssn m (List.mem_filter.1 hm).1
    rw [late_small (by omega) (by omega)] at h1
    simp [h0] at h1
    omega
  have hl : ∀ n, n < l.length → at_ + n < 20 := fun n hn' => by
    obtain ⟨e1, e2⟩ := g1 n _ (List.getElem?_eq_getElem hn')
    have h2 := hssn _ (hMw _ (hsub _ (.inr (List.getElem_mem hn'))))
    rw [e2] at h2
    have hk := hkeep _ (hsub _ (.inr (List.getElem_mem hn'))) e1
    rw [e2] at hk
    induction n with
    | zero => omega
    | succ n ih =>
      have hn1 : n < l.length := by omega
      obtain ⟨f1, f2⟩ := g1 n _ (List.getElem?_eq_getElem hn1)
      have k2 := hssn _ (hMw _ (hsub _ (.inr (List.getElem_mem hn1))))
      rw [f2] at k2
      have kk := hkeep _ (hsub _ (.inr (List.getElem_mem hn1))) f1
      rw [f2] at kk
      have := ih hn1 f1 f2 k2 kk
      omega
  have hlen : at_ + l.length ≤ 40 := by
    rcases Nat.eq_zero_or_pos l.length with h0 | h0
    · omega
    · have := hl (l.length - 1) (by omega)
      omega
  have hl0 : ∀ m ∈ l, m.stream = 0 := fun m hm => by
    obtain ⟨n, hn', rfl⟩ := List.getElem_of_mem hm
    exact (g1 n _ (List.getElem?_eq_getElem hn')).1
  have hpw : (l ++ rest).Pairwise (fun a b => ¬ (a.stream = b.stream ∧ a.ssn = b.ssn)) := by
    rw [hp.pairwise_iff (fun h e => h ⟨e.1.symm, e.2.symm⟩), ← hM]
    exact h.w3.sublist List.filter_sublist
  rw [List.pairwise_append] at hpw
  obtain ⟨k1, k2⟩ := keep_waits wait at_
  rw [hM] at k1 k2
  have hw : ∀ s, waitsF s l + waitsF s rest = waitsF s M := fun s => by rw [← waits_app, waits_perm hp]
  refine ⟨g1, g2, ?_, ?_, fun m hm h0 => ?_, fun m hm => hMw m (hsub m hm), fun m hm => hssn m (hMw m (hsub m (.inl hm))), by
    have h1 := hp.length_eq
    have h2 : M.length ≤ wait.length := by rw [← hM]; exact List.length_filter_le _ _
    rw [List.length_append] at h1
    omega⟩
  · have := hw 1
    rw [waits_none (s := 1) (l := l) (fun m hm => by rw [hl0 m hm]; decide)] at this
    omega
  · have := hw 0
    rw [waits_all hl0] at this
    omega
  · have hge := hkeep m (hsub m (.inl hm)) h0
    have hne := g3 m hm
    rcases Int.lt_trichotomy m.ssn x' with hlt | he | hgt
    · have hn' : (m.ssn - at_).toNat < l.length := by omega
      obtain ⟨f1, f2⟩ := g1 _ _ (List.getElem?_eq_getElem hn')
      exact absurd ⟨by rw [f1, h0], by rw [f2]; omega⟩ (hpw.2.2 _ (List.getElem_mem hn') m hm)
    · exact absurd ⟨h0, he⟩ hne
    · exact hgt
end Go.Proofs.Ytegefnidhdicdaa
