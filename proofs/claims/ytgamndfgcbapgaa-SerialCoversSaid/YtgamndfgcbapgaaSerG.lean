/- Numbers that go round: what is told of them stays when the same is added to each; rows cover what there is. Plain facts. -/
import Derived.Test.YtgamndfgcbapgaaSerQ
namespace Go.Proofs.Ytgamndfgcbapgaa.Ser
open Go.RowKit
set_option linter.unusedVariables false

def sh (by_ x : Int) : Int := (x + by_) % 4294967296
theorem sh_ru (b x : Int) : RU (sh b x) := by unfold sh RU; omega
theorem kf_sh (b a x : Int) : kf (sh b a) (sh b x) = kf a x := by unfold kf sh; omega
theorem sh_inj {b x y : Int} (hx : RU x) (hy : RU y) : sh b x = sh b y ↔ x = y := by
  unfold sh RU at *
  constructor
  · omega
  · rintro rfl; rfl
theorem ins_sh (b a x : Int) (hx : RU x) : ∀ l : List Int, (∀ y ∈ l, RU y) → ins (sh b a) (sh b x) (l.map (sh b)) = (ins a x l).map (sh b)
  | [], _ => rfl
  | y :: l, h => by
    have hy := h y (by simp)
    have ih := ins_sh b a x hx l (fun z hz => h z (List.mem_cons_of_mem _ hz))
    simp only [List.map_cons, ins, kf_sh, sh_inj hy hx, ih]
    split
    · rfl
    · split <;> simp
theorem srt_sh (b a : Int) (l : List Int) (h : ∀ y ∈ l, RU y) : srt (sh b a) (l.map (sh b)) = (srt a l).map (sh b) := by
  have : ∀ (l s : List Int), (∀ y ∈ l, RU y) → (∀ y ∈ s, RU y) → (l.map (sh b)).foldl (fun s x => ins (sh b a) x s) (s.map (sh b)) = (l.foldl (fun s x => ins a x s) s).map (sh b) := fun l => by
    induction l with
    | nil => intro s _ _; rfl
    | cons x l ih =>
      intro s hl hs
      have hx := hl x (by simp)
      rw [List.map_cons, List.foldl_cons, List.foldl_cons, ins_sh b a x hx s hs]
      exact ih _ (fun y hy => hl y (List.mem_cons_of_mem _ hy)) (fun y hy => by
        rcases mem_ins.1 hy with rfl | hy
        · exact hx
        · exact hs y hy)
  exact this l [] h (by simp)
def sh2 (b : Int) (p : Int × Int) : Int × Int := (sh b p.1, sh b p.2)
theorem rstep_sh (b x : Int) (hx : RU x) (o : List (Int × Int)) (ho : ∀ p ∈ o, RU p.2) : rstep (o.map (sh2 b)) (sh b x) = (rstep o x).map (sh2 b) := by
  unfold rstep
  rw [List.length_map, List.getElem?_map]
  cases hp : o[o.length - 1]? with
  | none => simp [sh2]
  | some p =>
    have hr := ho p (List.mem_of_getElem? hp)
    have e : ((sh2 b p).2 + 1) % 4294967296 = sh b x ↔ (p.2 + 1) % 4294967296 = x := by
      unfold sh2 sh RU at *
      dsimp only
      omega
    simp only [Option.map_some, e]
    split
    · rw [List.map_set]; rfl
    · simp [sh2]
theorem rstep_ru {x : Int} (hx : RU x) {o : List (Int × Int)} (ho : ∀ p ∈ o, RU p.2) : ∀ p ∈ rstep o x, RU p.2 := by
  unfold rstep
  intro p hp
  split at hp
  · split at hp
    · rcases List.mem_or_eq_of_mem_set hp with h | h
      · exact ho p h
      · rw [h]; exact hx
    · rcases List.mem_append.1 hp with h | h
      · exact ho p h
      · rw [List.mem_singleton.1 h]; exact hx
  · rcases List.mem_append.1 hp with h | h
    · exact ho p h
    · rw [List.mem_singleton.1 h]; exact hx
theorem runs_sh (b : Int) (s : List Int) (h : ∀ y ∈ s, RU y) : runs (s.map (sh b)) = (runs s).map (sh2 b) := by
  have : ∀ (s : List Int) (o : List (Int × Int)), (∀ y ∈ s, RU y) → (∀ p ∈ o, RU p.2) → (s.map (sh b)).foldl rstep (o.map (sh2 b)) = (s.foldl rstep o).map (sh2 b) := fun s => by
    induction s with
    | nil => intro o _ _; rfl
    | cons x s ih =>
      intro o hs ho
      have hx := hs x (by simp)
      rw [List.map_cons, List.foldl_cons, List.foldl_cons, rstep_sh b x hx o ho]
      exact ih _ (fun y hy => hs y (List.mem_cons_of_mem _ hy)) (rstep_ru hx ho)
  exact this s [] h (by simp)
/-- Sorted in whatever order they came, each once. -/
theorem srt_mem {fr : Int} {a b : List Int} (ha : ∀ y ∈ a, RU y) (hb : ∀ y ∈ b, RU y) (h : ∀ z, z ∈ a ↔ z ∈ b) : srt fr a = srt fr b :=
  up_eq (up_srt ha) (up_srt hb) fun z => by rw [mem_srt ha, mem_srt hb, h]
theorem srt_srt {fr : Int} {a : List Int} (ha : ∀ y ∈ a, RU y) : srt fr (srt fr a) = srt fr a := by
  have hs : ∀ y ∈ srt fr a, RU y := fun y hy => ha y ((mem_srt ha).1 hy)
  exact srt_mem hs ha fun z => mem_srt ha
/-- What the rows of a sorted list have. -/
structure Cov (fr : Int) (s : List Int) (r : List (Int × Int)) : Prop where
  each : ∀ p ∈ r, RU p.1 ∧ RU p.2 ∧ kf fr p.1 ≤ kf fr p.2
  gap : r.Pairwise fun p q => kf fr p.2 + 1 < kf fr q.1
  sum : (r.map fun p => kf fr p.2 - kf fr p.1 + 1).sum = s.length
  in_ : ∀ x ∈ s, ∃ p ∈ r, withinF x p.1 p.2 = true
  last : r[r.length - 1]?.map (·.2) = s[s.length - 1]?
theorem snoc_last {α : Type} {r : List α} {p : α} (h : r[r.length - 1]? = some p) : ∃ q, r = q ++ [p] := by
  cases hr : r.reverse with
  | nil => rw [List.reverse_eq_nil_iff] at hr; subst hr; simp at h
  | cons a t =>
    have : r = t.reverse ++ [a] := by rw [← List.reverse_reverse r, hr]; simp
    subst this
    simp at h
    exact ⟨_, by rw [h]⟩
theorem set_last {α : Type} (q : List α) (p a : α) : (q ++ [p]).set ((q ++ [p]).length - 1) a = q ++ [a] := by
  simp [List.set_append]
theorem cov_step {fr x : Int} {s : List Int} {r : List (Int × Int)} (hx : RU x) (hs : ∀ y ∈ s, RU y) (hup : Up fr (s ++ [x])) (h : Cov fr s r) : Cov fr (s ++ [x]) (rstep r x) := by
  have hlt : ∀ y ∈ s, kf fr y < kf fr x := fun y hy => (List.pairwise_append.1 hup).2.2 y hy x (by simp)
  have hlast : (s ++ [x])[(s ++ [x]).length - 1]? = some x := by simp
  have hself : withinF x x x = true := by unfold withinF; simp
  cases hp : r[r.length - 1]? with
  | none =>
    have hr : r = [] := by
      rcases Nat.eq_zero_or_pos r.length with h0 | h0
      · exact List.eq_nil_of_length_eq_zero h0
      · rw [List.getElem?_eq_getElem (by omega)] at hp; cases hp
    subst hr
    have hs0 : s = [] := by
      have h0 := h.sum
      simp at h0
      exact List.eq_nil_of_length_eq_zero (by omega)
    subst hs0
    have e : rstep [] x = [(x, x)] := rfl
    rw [e]
    refine ⟨?_, ?_, ?_, ?_, ?_⟩
    · intro p hp; rw [List.mem_singleton.1 hp]; exact ⟨hx, hx, Int.le_refl _⟩
    · exact List.pairwise_singleton _ _
    · simp
    · intro y hy; simp at hy; subst hy; exact ⟨(y, y), by simp, hself⟩
    · simp
  | some p =>
    obtain ⟨q, rfl⟩ := snoc_last hp
    obtain ⟨e1, e2, e3⟩ := h.each p (by simp)
    have hl := h.last
    rw [hp] at hl
    have hpx := hlt p.2 (by
      have := hl.symm
      simp only [Option.map_some] at this
      exact List.mem_of_getElem? this)
    have hkx := kf_hi fr x
    have hgap := List.pairwise_append.1 h.gap
    have hsum := h.sum
    rw [List.map_append, List.sum_append] at hsum
    simp only [List.map_cons, List.map_nil, List.sum_cons, List.sum_nil] at hsum
    unfold rstep
    rw [hp]
    dsimp only
    by_cases hx1 : (p.2 + 1) % 4294967296 = x
    · have hk : kf fr x = kf fr p.2 + 1 := by unfold kf RU at *; omega
      rw [if_pos hx1, set_last]
      refine ⟨?_, ?_, ?_, ?_, ?_⟩
      · intro u hu
        rcases List.mem_append.1 hu with hu | hu
        · exact h.each u (by simp [hu])
        · rw [List.mem_singleton.1 hu]; exact ⟨e1, hx, by dsimp only; omega⟩
      · refine List.pairwise_append.2 ⟨hgap.1, List.pairwise_singleton _ _, fun a ha b hb => ?_⟩
        rw [List.mem_singleton.1 hb]
        exact hgap.2.2 a ha p (by simp)
      · rw [List.map_append, List.sum_append]
        simp only [List.map_cons, List.map_nil, List.sum_cons, List.sum_nil, List.length_append, List.length_cons, List.length_nil]
        omega
      · intro y hy
        rcases List.mem_append.1 hy with hy | hy
        · obtain ⟨u, hu, hw⟩ := h.in_ y hy
          rcases List.mem_append.1 hu with hu | hu
          · exact ⟨u, by simp [hu], hw⟩
          · rw [List.mem_singleton.1 hu] at hw
            refine ⟨(p.1, x), by simp, ?_⟩
            unfold withinF at *
            simp only [decide_eq_true_eq] at *
            have : kf p.1 p.2 ≤ kf p.1 x := by unfold kf RU at *; omega
            omega
        · rw [List.mem_singleton.1 hy]
          exact ⟨(p.1, x), by simp, by unfold withinF; simp⟩
      · rw [hlast]; simp
    · have hk : kf fr p.2 + 1 < kf fr x := by
        have : kf fr x ≠ kf fr p.2 + 1 := fun e => hx1 (by unfold kf RU at *; omega)
        omega
      rw [if_neg hx1]
      refine ⟨?_, ?_, ?_, ?_, ?_⟩
      · intro u hu
        rcases List.mem_append.1 hu with hu | hu
        · exact h.each u hu
        · rw [List.mem_singleton.1 hu]; exact ⟨hx, hx, Int.le_refl _⟩
      · refine List.pairwise_append.2 ⟨h.gap, List.pairwise_singleton _ _, fun a ha b hb => ?_⟩
        rw [List.mem_singleton.1 hb]
        rcases List.mem_append.1 ha with ha | ha
        · have h1 := hgap.2.2 a ha p (by simp)
          show kf fr a.2 + 1 < kf fr x
          omega
        · rw [List.mem_singleton.1 ha]; exact hk
      · rw [List.map_append, List.sum_append, List.map_append, List.sum_append]
        simp only [List.map_cons, List.map_nil, List.sum_cons, List.sum_nil, List.length_append, List.length_cons, List.length_nil]
        omega
      · intro y hy
        rcases List.mem_append.1 hy with hy | hy
        · obtain ⟨u, hu, hw⟩ := h.in_ y hy
          exact ⟨u, List.mem_append.2 (.inl hu), hw⟩
        · rw [List.mem_singleton.1 hy]
          exact ⟨(x, x), by simp, hself⟩
      · rw [hlast]; simp
theorem cov_take {fr : Int} {s : List Int} (hs : ∀ y ∈ s, RU y) (hup : Up fr s) : ∀ i, i ≤ s.length → Cov fr (s.take i) (runs (s.take i))
  | 0, _ => ⟨by simp [runs], by simp [runs], by simp [runs], by simp, by simp [runs]⟩
  | i + 1, hi => by
    have ih := cov_take hs hup i (by omega)
    obtain ⟨x, hx⟩ : ∃ x, s[i]? = some x := ⟨_, List.getElem?_eq_getElem (by omega)⟩
    have ht := take_snoc hx
    rw [runs_take hx, ht]
    refine cov_step (hs x (List.mem_of_getElem? hx)) (fun y hy => hs y (List.mem_of_mem_take hy)) ?_ ih
    rw [← ht]
    exact List.Pairwise.sublist (List.take_sublist _ _) hup
theorem cov {fr : Int} {s : List Int} (hs : ∀ y ∈ s, RU y) (hup : Up fr s) : Cov fr s (runs s) := by
  have := cov_take hs hup s.length (Nat.le_refl _)
  rwa [List.take_length] at this
end Go.Proofs.Ytgamndfgcbapgaa.Ser
