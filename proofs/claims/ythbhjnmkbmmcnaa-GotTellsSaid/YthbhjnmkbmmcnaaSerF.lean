/- Numbers that go round: plain functions and facts. -/
import Derived.Test.YthbhjnmkbmmcnaaKit
namespace Go.Proofs.Ythbhjnmkbmmcnaa.Ser
set_option linter.unusedVariables false

/-- How far a number is above another one. -/
def kf (fr x : Int) : Int := (x - fr) % 4294967296
def RU (x : Int) : Prop := 0 ≤ x ∧ x ≤ 4294967295
theorem kf_lo (fr x : Int) : 0 ≤ kf fr x := Int.emod_nonneg _ (by omega)
theorem kf_hi (fr x : Int) : kf fr x < 4294967296 := Int.emod_lt_of_pos _ (by omega)
theorem kf_inj {fr x y : Int} (hx : RU x) (hy : RU y) (h : kf fr x = kf fr y) : x = y := by
  unfold kf RU at *
  omega
/-- A number put in where it belongs, if it is not there. -/
def ins (fr x : Int) : List Int → List Int
  | [] => [x]
  | y :: l => if kf fr y < kf fr x then y :: ins fr x l else if y = x then y :: l else x :: y :: l
def srt (fr : Int) (l : List Int) : List Int := l.foldl (fun s x => ins fr x s) []
/-- Without neighbours that are the same. -/
def cmpct : List Int → List Int
  | [] => []
  | [x] => [x]
  | x :: y :: l => if x = y then cmpct (y :: l) else x :: cmpct (y :: l)
def Up (fr : Int) (l : List Int) : Prop := l.Pairwise fun a b => kf fr a < kf fr b
def UpE (fr : Int) (l : List Int) : Prop := l.Pairwise fun a b => kf fr a ≤ kf fr b
theorem mem_ins {fr x z : Int} : ∀ {l : List Int}, z ∈ ins fr x l ↔ z = x ∨ z ∈ l
  | [] => by simp [ins]
  | y :: l => by
    unfold ins
    split
    · rw [List.mem_cons, mem_ins, List.mem_cons]
      constructor
      · rintro (h | h | h)
        · exact .inr (.inl h)
        · exact .inl h
        · exact .inr (.inr h)
      · rintro (h | h | h)
        · exact .inr (.inl h)
        · exact .inl h
        · exact .inr (.inr h)
    · split
      · rename_i e
        subst e
        rw [List.mem_cons]
        constructor
        · exact .inr
        · rintro (h | h)
          · exact .inl h
          · exact h
      · simp
theorem up_ins {fr x : Int} (hx : RU x) : ∀ {l : List Int}, (∀ y ∈ l, RU y) → Up fr l → Up fr (ins fr x l)
  | [], _, _ => by unfold ins Up; simp
  | y :: l, hl, h => by
    unfold Up at h
    rw [List.pairwise_cons] at h
    unfold ins Up
    split
    · rename_i h1
      refine List.pairwise_cons.2 ⟨fun z hz => ?_, up_ins hx (fun z hz => hl z (List.mem_cons_of_mem _ hz)) h.2⟩
      rcases mem_ins.1 hz with rfl | hz
      · exact h1
      · exact h.1 z hz
    · split
      · exact List.pairwise_cons.2 h
      · rename_i h1 h2
        have hlt : kf fr x < kf fr y := by
          have : kf fr x ≠ kf fr y := fun e => h2 (kf_inj hx (hl y (by simp)) e).symm
          omega
        refine List.pairwise_cons.2 ⟨fun z hz => ?_, List.pairwise_cons.2 h⟩
        rcases List.mem_cons.1 hz with rfl | hz
        · exact hlt
        · have := h.1 z hz; omega
theorem srt_gen (fr : Int) : ∀ (l s : List Int), (∀ y ∈ l, RU y) → (∀ y ∈ s, RU y) → Up fr s →
    Up fr (l.foldl (fun s x => ins fr x s) s) ∧ ∀ z, z ∈ l.foldl (fun s x => ins fr x s) s ↔ z ∈ l ∨ z ∈ s
  | [], s, _, _, h => ⟨h, by simp⟩
  | x :: l, s, hl, hs, h => by
    have hx := hl x (by simp)
    have h' := srt_gen fr l (ins fr x s) (fun y hy => hl y (List.mem_cons_of_mem _ hy)) (fun y hy => by
      rcases mem_ins.1 hy with rfl | hy
      · exact hx
      · exact hs y hy) (up_ins hx hs h)
    refine ⟨h'.1, fun z => ?_⟩
    rw [List.foldl_cons, h'.2 z, mem_ins, List.mem_cons]
    constructor
    · rintro (h | h | h)
      · exact .inl (.inr h)
      · exact .inl (.inl h)
      · exact .inr h
    · rintro ((h | h) | h)
      · exact .inr (.inl h)
      · exact .inl h
      · exact .inr (.inr h)
theorem up_srt {fr : Int} {l : List Int} (h : ∀ y ∈ l, RU y) : Up fr (srt fr l) := (srt_gen fr l [] h (by simp) .nil).1
theorem mem_srt {fr z : Int} {l : List Int} (h : ∀ y ∈ l, RU y) : z ∈ srt fr l ↔ z ∈ l := by
  have := (srt_gen fr l [] h (by simp) .nil).2 z
  simpa [srt] using this
/-- Two rows that go up and have the same numbers are the same. -/
theorem up_eq {fr : Int} : ∀ {a b : List Int}, Up fr a → Up fr b → (∀ z, z ∈ a ↔ z ∈ b) → a = b
  | [], [], _, _, _ => rfl
  | [], y :: b, _, _, h => absurd ((h y).2 (by simp)) (by simp)
  | x :: a, [], _, _, h => absurd ((h x).1 (by simp)) (by simp)
  | x :: a, y :: b, ha, hb, h => by
    unfold Up at ha hb
    rw [List.pairwise_cons] at ha hb
    have hxy : x = y := by
      rcases List.mem_cons.1 ((h x).1 (by simp)) with h1 | h1
      · exact h1
      · rcases List.mem_cons.1 ((h y).2 (by simp)) with h2 | h2
        · exact h2.symm
        · have := hb.1 x h1
          have := ha.1 y h2
          omega
    subst hxy
    have := up_eq (a := a) (b := b) ha.2 hb.2 fun z => by
      constructor
      · intro hz
        rcases List.mem_cons.1 ((h z).1 (List.mem_cons_of_mem _ hz)) with h1 | h1
        · have := ha.1 z hz; rw [h1] at this; omega
        · exact h1
      · intro hz
        rcases List.mem_cons.1 ((h z).2 (List.mem_cons_of_mem _ hz)) with h1 | h1
        · have := hb.1 z hz; rw [h1] at this; omega
        · exact h1
    rw [this]
theorem mem_cmpct {z : Int} : ∀ {l : List Int}, z ∈ cmpct l ↔ z ∈ l
  | [] => by simp [cmpct]
  | [x] => by simp [cmpct]
  | x :: y :: l => by
    unfold cmpct
    split
    · rename_i e
      rw [mem_cmpct, e]
      simp
    · rw [List.mem_cons, mem_cmpct, List.mem_cons]
      simp
theorem up_cmpct {fr : Int} : ∀ {l : List Int}, (∀ y ∈ l, RU y) → UpE fr l → Up fr (cmpct l)
  | [], _, _ => .nil
  | [x], _, _ => List.pairwise_singleton _ _
  | x :: y :: l, hl, h => by
    unfold UpE at h
    rw [List.pairwise_cons] at h
    have h' := up_cmpct (fr := fr) (l := y :: l) (fun z hz => hl z (List.mem_cons_of_mem _ hz)) h.2
    unfold cmpct
    split
    · exact h'
    · rename_i hne
      refine List.pairwise_cons.2 ⟨fun z hz => ?_, h'⟩
      have hz' := mem_cmpct.1 hz
      have h1 := h.1 z hz'
      have hy := h.1 y (by simp)
      have hyx : kf fr x ≠ kf fr y := fun e => hne (kf_inj (hl x (by simp)) (hl y (by simp)) e)
      rcases List.mem_cons.1 hz' with rfl | hz2
      · omega
      · have := (List.pairwise_cons.1 h.2).1 z hz2
        omega
theorem cmpct_srt {fr : Int} {l s : List Int} (hl : ∀ y ∈ l, RU y) (hp : s.Perm l) (hs : UpE fr s) : cmpct s = srt fr l :=
  up_eq (up_cmpct (fun y hy => hl y (hp.mem_iff.1 hy)) hs) (up_srt hl) fun z => by rw [mem_cmpct, mem_srt hl, hp.mem_iff]
end Go.Proofs.Ythbhjnmkbmmcnaa.Ser
