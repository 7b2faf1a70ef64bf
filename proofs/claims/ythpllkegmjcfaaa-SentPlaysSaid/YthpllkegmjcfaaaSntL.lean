/- What is told newly is what was not told, and is now: the plain law of SentBytes. -/
import Derived.Test.YthpllkegmjcfaaaSntE
namespace Go.Proofs.Ythpllkegmjcfaaa
open Go.RowKit
set_option linter.unusedVariables false

def was1 (p : Pc) : Int := if p.state = 2 then 0 else p.size
def wasF (ps : List Pc) : Int := (ps.map was1).sum
def left1 (q : Pc × Pc) : Int := if q.1.state = 2 then 0 else if q.2.state = 2 then q.1.size - q.1.size else q.1.size
def leftF (l : List (Pc × Pc)) : Int := (l.map left1).sum
def new1 (q : Bool × Pc) : Int := if q.1 = true ∧ q.2.state ≠ 2 then q.2.size else 0

theorem done_was (now : Int) : ∀ (ps : List Pc) (r : Res), Small ps → (r.fresh = decide (r.bytes > 0)) → 0 ≤ r.bytes → (ps.foldl (doneF now) r).bytes = r.bytes + wasF ps ∧ (ps.foldl (doneF now) r).fresh = decide ((ps.foldl (doneF now) r).bytes > 0) ∧ 0 ≤ (ps.foldl (doneF now) r).bytes
  | [], r, _, hf, h0 => ⟨by simp [wasF], hf, h0⟩
  | p :: ps, r, hs, hf, h0 => by
    have hp := hs p (List.mem_cons_self ..)
    have hs' : Small ps := fun q hq => hs q (List.mem_cons_of_mem _ hq)
    have e : (doneF now r p).bytes = r.bytes + was1 p ∧ ((doneF now r p).fresh = decide ((doneF now r p).bytes > 0)) ∧ 0 ≤ (doneF now r p).bytes := by
      unfold doneF was1
      split
      · exact ⟨by simp, hf, h0⟩
      · refine ⟨rfl, ?_, by simp only [tellF]; omega⟩
        simp only [tellF]
        exact (decide_eq_true (by omega)).symm
    obtain ⟨g1, g2, g3⟩ := done_was now ps (doneF now r p) hs' e.2.1 e.2.2
    rw [List.foldl_cons]
    exact ⟨by rw [g1, e.1]; simp [wasF]; omega, g2, g3⟩
theorem new_was (now : Int) : ∀ (l : List (Bool × Pc)) (r : Res), (∀ q ∈ l, 1 ≤ q.2.size) → (r.fresh = decide (r.bytes > 0)) → 0 ≤ r.bytes → (l.foldl (newF now) r).bytes = r.bytes + (l.map new1).sum ∧ (l.foldl (newF now) r).fresh = decide ((l.foldl (newF now) r).bytes > 0)
  | [], r, _, hf, h0 => ⟨by simp, hf⟩
  | p :: ps, r, hs, hf, h0 => by
    have hp := hs p (List.mem_cons_self ..)
    have e : (newF now r p).bytes = r.bytes + new1 p ∧ ((newF now r p).fresh = decide ((newF now r p).bytes > 0)) ∧ 0 ≤ (newF now r p).bytes := by
      unfold newF new1
      split
      · refine ⟨rfl, ?_, by simp only [tellF]; omega⟩
        simp only [tellF]
        exact (decide_eq_true (by omega)).symm
      · exact ⟨by simp, hf, h0⟩
    obtain ⟨g1, g2⟩ := new_was now ps (newF now r p) (fun q hq => hs q (List.mem_cons_of_mem _ hq)) e.2.1 e.2.2
    rw [List.foldl_cons]
    exact ⟨by rw [g1, e.1]; simp; omega, g2⟩

theorem step3_get (ps : List Pc) (u : Nat) (gs : List (Nat × Nat)) (last i : Nat) (hlast : last ≤ ps.length - u) : (step3 ps u gs last)[i]? = (step2 ps u gs)[i]?.map fun q => if i < last then missF q else q := by
  have h2 := step2_len ps u gs
  unfold step3
  have hl : (((step2 ps u gs).map missF).take last).length = last := by rw [List.length_take, List.length_map, h2]; omega
  by_cases h : i < last
  · rw [List.getElem?_append_left (by omega), List.getElem?_take_of_lt h, List.getElem?_map]
    simp [h]
  · rw [List.getElem?_append_right (by omega), hl, List.getElem?_drop, show last + (i - last) = i from by omega]
    simp [h]
theorem step_same (b : Bool) (p : Pc) : (stepF b p).size = p.size ∧ (stepF b p).tsn = p.tsn := by
  unfold stepF; split
  · exact ⟨rfl, rfl⟩
  · split <;> exact ⟨rfl, rfl⟩
theorem miss_same (p : Pc) : (missF p).size = p.size ∧ (missF p).tsn = p.tsn ∧ ((missF p).state = 2 ↔ p.state = 2) := by
  unfold missF; split
  · rename_i h
    split
    · exact ⟨rfl, rfl, by simp only; omega⟩
    · exact ⟨rfl, rfl, Iff.rfl⟩
  · exact ⟨rfl, rfl, Iff.rfl⟩
/-- A piece behind, and the one that it was. -/
theorem step3_at {ps : List Pc} {u : Nat} {gs : List (Nat × Nat)} {last i : Nat} {q : Pc} (hlast : last ≤ ps.length - u) (hq : (step3 ps u gs last)[i]? = some q) :
    ∃ b p, (marks' ps u gs)[i]? = some b ∧ (ps.drop u)[i]? = some p ∧ q.size = p.size ∧ q.tsn = p.tsn ∧ (q.state = 2 ↔ (stepF b p).state = 2) := by
  rw [step3_get ps u gs last i hlast] at hq
  cases hs : (step2 ps u gs)[i]? with
  | none => rw [hs] at hq; cases hq
  | some s =>
    rw [hs] at hq
    simp only [Option.map_some, Option.some.injEq] at hq
    unfold step2 at hs
    rw [List.getElem?_zipWith] at hs
    cases hb : (marks' ps u gs)[i]? with
    | none => rw [hb] at hs; simp at hs
    | some b =>
      cases hp : (ps.drop u)[i]? with
      | none => rw [hb, hp] at hs; simp at hs
      | some p =>
        rw [hb, hp] at hs
        simp only [Option.some.injEq] at hs
        have h1 := step_same b p
        refine ⟨b, p, rfl, rfl, ?_⟩
        subst hs hq
        split
        · have h2 := miss_same (stepF b p)
          exact ⟨h2.1.trans h1.1, h2.2.1.trans h1.2, h2.2.2⟩
        · exact ⟨h1.1, h1.2, Iff.rfl⟩
theorem left_new {b : Bool} {p q : Pc} (h1 : q.size = p.size) (h2 : q.state = 2 ↔ (stepF b p).state = 2) : left1 (q, p) + new1 (b, p) = was1 p := by
  unfold left1 new1 was1
  simp only
  rw [h1]
  cases b with
  | true =>
    by_cases h : p.state = 2
    · have : q.state = 2 := h2.2 (by simp [stepF, h])
      simp [this, h]
    · have : q.state = 2 := h2.2 (by simp [stepF, h])
      simp [this, h]
  | false =>
    by_cases h : p.state = 2
    · simp [h]
    · have : ¬ q.state = 2 := fun e => by have := h2.1 e; simp [stepF, h] at this
      simp [this, h]
theorem sum_three {α β γ : Type} (f : α → Int) (g : β → Int) (h : γ → Int) : ∀ (a : List α) (b : List β) (c : List γ), a.length = c.length → b.length = c.length → (∀ (i : Nat) x y z, a[i]? = some x → b[i]? = some y → c[i]? = some z → f x + g y = h z) → (a.map f).sum + (b.map g).sum = (c.map h).sum
  | [], [], [], _, _, _ => by simp
  | x :: a, y :: b, z :: c, ha, hb, hh => by
    have := sum_three f g h a b c (by simpa using ha) (by simpa using hb) fun i x' y' z' hx hy hz => hh (i + 1) x' y' z' (by simpa using hx) (by simpa using hy) (by simpa using hz)
    have h0 := hh 0 x y z rfl rfl rfl
    simp only [List.map_cons, List.sum_cons]
    omega
  | [], _ :: _, [], _, hb, _ => by simp at hb
  | [], _, _ :: _, ha, _, _ => by simp at ha
  | _ :: _, _, [], ha, _, _ => by simp at ha
  | _ :: _, [], _ :: _, _, hb, _ => by simp at hb
theorem wasF_app (a b : List Pc) : wasF (a ++ b) = wasF a + wasF b := by simp [wasF]
theorem sent_bytes {ps : List Pc} {u : Nat} {gs : List (Nat × Nat)} {now : Int} {last : Nat} (hs : Small ps) (hu : u ≤ ps.length) (hlast : last ≤ ps.length - u) :
    wasF ps = leftF ((step3 ps u gs last).zip (ps.drop u)) + (ack3 ps u gs now last).bytes ∧ (ack3 ps u gs now last).fresh = decide ((ack3 ps u gs now last).bytes > 0) := by
  have hml := marks_len ps u gs
  have h3l := step3_len ps u gs last hlast
  have hdl : (ps.drop u).length = ps.length - u := List.length_drop
  obtain ⟨g1, g2, g3⟩ := done_was now (ps.take u) (res0 (underF (-1) ps) (decide (0 < u))) (fun p hp => hs p (List.mem_of_mem_take hp)) (by simp [res0]) (by simp [res0])
  obtain ⟨k1, k2⟩ := new_was now ((marks' ps u gs).zip (ps.drop u)) (ack1 ps u now) (fun q hq => (hs q.2 (List.mem_of_mem_drop (List.of_mem_zip hq).2)).1) g2 g3
  have hsum := sum_three left1 new1 was1 ((step3 ps u gs last).zip (ps.drop u)) ((marks' ps u gs).zip (ps.drop u)) (ps.drop u) (by rw [List.length_zip]; omega) (by rw [List.length_zip]; omega) (fun i x y z hx hy hz => by
    obtain ⟨q, p⟩ := x
    obtain ⟨b, p'⟩ := y
    obtain ⟨hx1, hx2⟩ := List.getElem?_zip_eq_some.1 hx
    obtain ⟨hy1, hy2⟩ := List.getElem?_zip_eq_some.1 hy
    simp only at hx1 hx2 hy1 hy2
    rw [hz] at hx2 hy2
    injection hx2 with hx2
    injection hy2 with hy2
    subst hx2 hy2
    obtain ⟨b', p'', e1, e2, e3, _, e5⟩ := step3_at hlast hx1
    rw [hy1] at e1
    rw [hz] at e2
    injection e1 with e1
    injection e2 with e2
    subst e1 e2
    exact left_new e3 e5)
  have hb : (ack3 ps u gs now last).bytes = (ack1 ps u now).bytes + (((marks' ps u gs).zip (ps.drop u)).map new1).sum := k1
  have hb1 : (ack1 ps u now).bytes = wasF (ps.take u) := by
    have : (ack1 ps u now).bytes = (res0 (underF (-1) ps) (decide (0 < u))).bytes + wasF (ps.take u) := g1
    rw [this]; simp [res0]
  refine ⟨?_, k2⟩
  have hsplit : wasF ps = wasF (ps.take u) + wasF (ps.drop u) := by rw [← wasF_app, List.take_append_drop]
  rw [hsplit, hb, hb1]
  unfold leftF wasF
  unfold wasF at hsum
  omega
theorem wasF_bounds : ∀ (ps : List Pc), Small ps → 0 ≤ wasF ps ∧ wasF ps ≤ 1500 * ps.length
  | [], _ => by simp [wasF]
  | p :: ps, h => by
    have h1 := wasF_bounds ps fun q hq => h q (List.mem_cons_of_mem _ hq)
    have h2 := h p (List.mem_cons_self ..)
    have h3 : wasF (p :: ps) = was1 p + wasF ps := by simp [wasF]
    rw [h3, List.length_cons]
    unfold was1
    split <;> omega
theorem leftF_bounds : ∀ (l : List (Pc × Pc)), (∀ q ∈ l, 1 ≤ q.1.size ∧ q.1.size ≤ 1500) → 0 ≤ leftF l ∧ leftF l ≤ 1500 * l.length
  | [], _ => by simp [leftF]
  | p :: ps, h => by
    have h1 := leftF_bounds ps fun q hq => h q (List.mem_cons_of_mem _ hq)
    have h2 := h p (List.mem_cons_self ..)
    have h3 : leftF (p :: ps) = left1 p + leftF ps := by simp [leftF]
    rw [h3, List.length_cons]
    unfold left1
    split
    · omega
    · split <;> omega
end Go.Proofs.Ythpllkegmjcfaaa
