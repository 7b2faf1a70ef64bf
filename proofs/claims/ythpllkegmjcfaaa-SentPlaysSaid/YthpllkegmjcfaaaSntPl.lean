/- Whatever happens, pieces stay right: the plain law of SentPlays. -/
import Derived.Test.YthpllkegmjcfaaaSntQ
import Derived.Test.YthpllkegmjcfaaaSntL
namespace Go.Proofs.Ythpllkegmjcfaaa
open Go.RowKit
set_option linter.unusedVariables false

structure Play (cum next done_ all_ : Int) (m : Nat) (ps : List Pc) : Prop where
  right : RightP cum ps
  cumb : 0 ≤ cum ∧ cum ≤ 4294967295
  nx : next = (cum + ps.length + 1) % 4294967296
  dn : done_ = (cum + 1) % 4294967296
  most : ps.length ≤ m
  sizes : sz ps ≤ all_
  allb : 0 ≤ all_ ∧ all_ ≤ 1500 * m
  path : ∀ p ∈ ps, p.path = 0 ∨ p.path = 1
theorem sz_app (a b : List Pc) : sz (a ++ b) = sz a + sz b := by simp [sz]
theorem sz_bounds : ∀ ps : List Pc, Small ps → 0 ≤ sz ps ∧ underF (-1) ps ≤ sz ps ∧ 0 ≤ underF (-1) ps ∧ wasF ps ≤ sz ps
  | [], _ => by simp [sz, underF, wasF]
  | p :: ps, h => by
    obtain ⟨a, b, c, d⟩ := sz_bounds ps fun q hq => h q (List.mem_cons_of_mem _ hq)
    have h2 := h p (List.mem_cons_self ..)
    have e1 : sz (p :: ps) = p.size + sz ps := by simp [sz]
    have e2 : underF (-1) (p :: ps) = under1 (-1) p + underF (-1) ps := by simp [underF, under1]
    have e3 : wasF (p :: ps) = was1 p + wasF ps := by simp [wasF]
    rw [e1, e2, e3]
    unfold under1 was1
    refine ⟨by omega, ?_, ?_, ?_⟩ <;> split <;> omega
theorem under_two : ∀ ps : List Pc, (∀ p ∈ ps, p.path = 0 ∨ p.path = 1) → underF (-1) ps = underF 0 ps + underF 1 ps
  | [], _ => by simp [underF]
  | p :: ps, h => by
    have g := under_two ps fun q hq => h q (List.mem_cons_of_mem _ hq)
    have h2 := h p (List.mem_cons_self ..)
    have hu : ∀ q, underF q (p :: ps) = under1 q p + underF q ps := fun q => by simp [underF, under1]
    rw [hu, hu, hu, g]
    have : under1 (-1) p = under1 0 p + under1 1 p := by
      unfold under1 outB
      rcases h2 with e | e <;> by_cases hs : p.state = 1 <;> simp [e, hs]
    omega
theorem Play.new (first : Int) (h0 : 0 ≤ first) (h1 : first ≤ 4294967295) : Play ((first - 1) % 4294967296) first first 0 0 [] :=
  ⟨⟨fun i p hp => by simp at hp, by simp⟩, by omega, by simp; omega, by omega, by simp, by simp [sz], by simp, by simp⟩
theorem Play.up {cum next done_ all_ : Int} {m m' : Nat} {ps : List Pc} (h : Play cum next done_ all_ m ps) (hm : m ≤ m') : Play cum next done_ all_ m' ps :=
  ⟨h.right, h.cumb, h.nx, h.dn, Nat.le_trans h.most hm, h.sizes, ⟨h.allb.1, by have := h.allb.2; omega⟩, h.path⟩
theorem Play.put {cum next done_ all_ size path now : Int} {m : Nat} {ps : List Pc} (h : Play cum next done_ all_ m ps) (hm : m < 64) (h0 : 1 ≤ size) (h1 : size ≤ 1500) (hp : path = 0 ∨ path = 1) :
    Play cum ((next + 1) % 4294967296) done_ (all_ + size) (m + 1) (ps ++ [⟨(cum + ps.length + 1) % 4294967296, size, 1, 0, 1, path, now⟩]) := by
  have hn := h.nx
  have hb := h.allb
  have hs := h.sizes
  have hl := h.most
  refine ⟨⟨fun i p hp' => ?_, by simp; omega⟩, h.cumb, by simp; omega, h.dn, by simp; omega, by rw [sz_app]; simp [sz] at hs ⊢; omega, by omega, fun p hp' => ?_⟩
  · rcases Nat.lt_or_ge i ps.length with hlt | hge
    · rw [List.getElem?_append_left hlt] at hp'
      exact h.right.1 i p hp'
    · rw [List.getElem?_append_right hge] at hp'
      have hi : i - ps.length = 0 := by
        have := (List.getElem?_eq_some_iff.1 hp').1
        simp at this
        omega
      rw [hi] at hp'
      simp at hp'
      subst hp'
      exact ⟨by simp only; omega, by simp only; omega, by simp only; omega, h0, h1⟩
  · rcases List.mem_append.1 hp' with hp' | hp'
    · exact h.path p hp'
    · simp at hp'
      subst hp'
      exact hp
theorem Play.same {cum next done_ all_ : Int} {m : Nat} {ps ts : List Pc} (h : Play cum next done_ all_ m ps) (hl : ts.length = ps.length) (hq : ∀ (i : Nat) p q, ps[i]? = some p → ts[i]? = some q → q.tsn = p.tsn ∧ q.size = p.size ∧ (1 ≤ q.state ∧ q.state ≤ 3) ∧ (q.path = 0 ∨ q.path = 1)) :
    Play cum next done_ all_ m ts := by
  have hsz : sz ts = sz ps := by
    unfold sz
    congr 1
    apply List.ext_getElem
    · simp [hl]
    · intro i h1 h2
      simp at h1 h2
      simp only [List.getElem_map]
      exact (hq i _ _ (List.getElem?_eq_getElem h2) (List.getElem?_eq_getElem h1)).2.1
  have hat : ∀ (i : Nat) q, ts[i]? = some q → ∃ p, ps[i]? = some p := fun i q h' => ⟨_, List.getElem?_eq_getElem (by rw [← hl]; exact (List.getElem?_eq_some_iff.1 h').1)⟩
  refine ⟨⟨fun i q h' => ?_, by rw [hl]; exact h.right.2⟩, h.cumb, by rw [hl]; exact h.nx, h.dn, by rw [hl]; exact h.most, by rw [hsz]; exact h.sizes, h.allb, fun q hq' => ?_⟩
  · obtain ⟨p, hp⟩ := hat i q h'
    obtain ⟨e1, e2, e3, _⟩ := hq i p q hp h'
    obtain ⟨g1, g2, g3, g4, g5⟩ := h.right.1 i p hp
    exact ⟨by rw [e1]; exact g1, e3.1, e3.2, by rw [e2]; exact g4, by rw [e2]; exact g5⟩
  · obtain ⟨i, hi, rfl⟩ := List.getElem_of_mem hq'
    obtain ⟨p, hp⟩ := hat i _ (List.getElem?_eq_getElem hi)
    exact (hq i p _ hp (List.getElem?_eq_getElem hi)).2.2.2
theorem Play.drop {cum next done_ all_ : Int} {m : Nat} {ps : List Pc} (h : Play cum next done_ all_ m ps) (path : Int) : Play cum next done_ all_ m (ps.map (drop1 path)) :=
  h.same (List.length_map _) fun i p q hp hq => by
    rw [List.getElem?_map, hp] at hq
    simp only [Option.map_some, Option.some.injEq] at hq
    subst hq
    obtain ⟨_, g2, g3, _⟩ := h.right.1 i p hp
    have hpa := h.path p (List.mem_of_getElem? hp)
    unfold drop1
    split
    · exact ⟨rfl, rfl, ⟨by simp only; omega, by simp only; omega⟩, hpa⟩
    · exact ⟨rfl, rfl, ⟨g2, g3⟩, hpa⟩
theorem Play.again {cum next done_ all_ to now : Int} {m j : Nat} {ps : List Pc} {p : Pc} (h : Play cum next done_ all_ m ps) (hp : ps[j]? = some p) (hto : to = 0 ∨ to = 1) : Play cum next done_ all_ m (ps.set j (resent to now p)) :=
  h.same (List.length_set ..) fun i p' q hp' hq => by
    by_cases e : i = j
    · subst e
      rw [List.getElem?_set_self (List.getElem?_eq_some_iff.1 hp).1] at hq
      rw [hp] at hp'
      injection hp' with hp'
      injection hq with hq
      subst hp' hq
      exact ⟨rfl, rfl, ⟨by simp [resent], by simp [resent]⟩, hto⟩
    · rw [List.getElem?_set_ne (fun e' => e e'.symm), hp'] at hq
      injection hq with hq
      subst hq
      obtain ⟨_, g2, g3, _⟩ := h.right.1 i p' hp'
      exact ⟨rfl, rfl, ⟨g2, g3⟩, h.path p' (List.mem_of_getElem? hp')⟩
theorem step_more (b : Bool) (p : Pc) (h : 1 ≤ p.state ∧ p.state ≤ 3) : (stepF b p).path = p.path ∧ 1 ≤ (stepF b p).state ∧ (stepF b p).state ≤ 3 := by
  unfold stepF; split
  · exact ⟨rfl, by simp only; omega, by simp only; omega⟩
  · split
    · exact ⟨rfl, by simp only; omega, by simp only; omega⟩
    · exact ⟨rfl, h.1, h.2⟩
theorem miss_more (p : Pc) (h : 1 ≤ p.state ∧ p.state ≤ 3) : (missF p).path = p.path ∧ 1 ≤ (missF p).state ∧ (missF p).state ≤ 3 := by
  unfold missF; split
  · split
    · exact ⟨rfl, by simp only; omega, by simp only; omega⟩
    · exact ⟨rfl, h.1, h.2⟩
  · exact ⟨rfl, h.1, h.2⟩
theorem done_list (now : Int) : ∀ (ps : List Pc) (r : Res), (ps.foldl (doneF now) r).done = r.done ++ ps.map (·.tsn)
  | [], r => by simp
  | p :: ps, r => by rw [List.foldl_cons, done_list now ps, done_len]; simp
theorem new_list (now : Int) : ∀ (l : List (Bool × Pc)) (r : Res), (l.foldl (newF now) r).done = r.done ∧ (l.foldl (newF now) r).out = r.out ∧ (l.foldl (newF now) r).moved = r.moved
  | [], r => ⟨rfl, rfl, rfl⟩
  | p :: l, r => by
    rw [List.foldl_cons]
    obtain ⟨a, b, c⟩ := new_list now l (newF now r p)
    rw [a, b, c]
    exact ⟨new_done now r p, (new_same now r p).2.1, (new_same now r p).2.2⟩
theorem done_more (now : Int) : ∀ (ps : List Pc) (r : Res), (ps.foldl (doneF now) r).out = r.out ∧ (ps.foldl (doneF now) r).moved = r.moved
  | [], r => ⟨rfl, rfl⟩
  | p :: ps, r => by
    rw [List.foldl_cons]
    obtain ⟨a, b⟩ := done_more now ps (doneF now r p)
    rw [a, b]
    exact ⟨(done_same now r p).2.1, (done_same now r p).2.2⟩
theorem ack_facts (ps : List Pc) (u : Nat) (gs : List (Nat × Nat)) (now : Int) (last : Nat) :
    (ack3 ps u gs now last).done = (ps.take u).map (·.tsn) ∧ (ack3 ps u gs now last).out = underF (-1) ps ∧ (ack3 ps u gs now last).moved = decide (0 < u) := by
  obtain ⟨a, b, c⟩ := new_list now ((marks' ps u gs).zip (ps.drop u)) (ack1 ps u now)
  have d := done_list now (ps.take u) (res0 (underF (-1) ps) (decide (0 < u)))
  obtain ⟨e, f⟩ := done_more now (ps.take u) (res0 (underF (-1) ps) (decide (0 < u)))
  refine ⟨?_, ?_, ?_⟩
  · show (ack2 ps u gs now).done = _
    unfold ack2; rw [a]; unfold ack1; rw [d]; simp [res0]
  · show (ack2 ps u gs now).out = _
    unfold ack2; rw [b]; unfold ack1; rw [e]; rfl
  · show (ack2 ps u gs now).moved = _
    unfold ack2; rw [c]; unfold ack1; rw [f]; rfl
theorem Play.ack {cum next done_ all_ now : Int} {m u : Nat} {ps : List Pc} (h : Play cum next done_ all_ m ps) (hu : u ≤ ps.length) (gs : List (Nat × Nat)) {last : Nat} (hlast : last ≤ ps.length - u) :
    Play ((cum + u) % 4294967296) next ((done_ + u) % 4294967296) all_ m (step3 ps u gs last) ∧ 0 ≤ (ack3 ps u gs now last).bytes ∧ (ack3 ps u gs now last).bytes ≤ all_ := by
  have hs := h.right.small
  obtain ⟨hb, _⟩ := sent_bytes (now := now) (gs := gs) hs hu hlast
  have h3l := step3_len ps u gs last hlast
  have hz := sz_bounds ps hs
  have hsz := h.sizes
  have hcb := h.cumb
  have hnx := h.nx
  have hdn := h.dn
  have hmost := h.most
  have hdrop : sz (ps.drop u) ≤ sz ps := by
    have h1 : sz ps = sz (ps.take u) + sz (ps.drop u) := by rw [← sz_app, List.take_append_drop]
    have h2 := (sz_bounds (ps.take u) fun p hp => hs p (List.mem_of_mem_take hp)).1
    omega
  have hat : ∀ (i : Nat) q, (step3 ps u gs last)[i]? = some q → ∃ p, ps[u + i]? = some p ∧ q.size = p.size ∧ q.tsn = p.tsn ∧ q.path = p.path ∧ 1 ≤ q.state ∧ q.state ≤ 3 := fun i q hq => by
    have hq0 := hq
    rw [step3_get ps u gs last i hlast] at hq
    obtain ⟨b, p, hb', hp, e1, e2, _⟩ := step3_at hlast hq0
    have hpu : ps[u + i]? = some p := by rw [← hp, List.getElem?_drop]
    obtain ⟨_, g2, g3, _⟩ := h.right.1 (u + i) p hpu
    have hs2 : (step2 ps u gs)[i]? = some (stepF b p) := by unfold step2; rw [List.getElem?_zipWith, hb', hp]
    rw [hs2] at hq
    simp only [Option.map_some, Option.some.injEq] at hq
    obtain ⟨k1, k2, k3⟩ := step_more b p ⟨g2, g3⟩
    refine ⟨p, hpu, e1, e2, ?_⟩
    subst hq
    split
    · obtain ⟨j1, j2, j3⟩ := miss_more (stepF b p) ⟨k2, k3⟩
      exact ⟨j1.trans k1, j2, j3⟩
    · exact ⟨k1, k2, k3⟩
  have hsz3 : sz (step3 ps u gs last) = sz (ps.drop u) := by
    unfold sz
    congr 1
    apply List.ext_getElem
    · simp [h3l]
    · intro i h1 h2
      simp at h1 h2
      simp only [List.getElem_map]
      obtain ⟨p, hp, e, _⟩ := hat i _ (List.getElem?_eq_getElem h1)
      rw [e]
      rw [← List.getElem?_drop] at hp
      obtain ⟨_, hp'⟩ := List.getElem?_eq_some_iff.1 hp
      rw [hp']
  have hlb := leftF_bounds ((step3 ps u gs last).zip (ps.drop u)) fun q hq => by
    obtain ⟨i, hi, e⟩ := List.getElem_of_mem (List.of_mem_zip hq).1
    obtain ⟨p, hp, e1, _⟩ := hat i _ (by rw [List.getElem?_eq_getElem hi, e])
    rw [e1]
    exact hs p (List.mem_of_getElem? hp)
  obtain ⟨b1, b2, b3⟩ := done_was now (ps.take u) (res0 (underF (-1) ps) (decide (0 < u))) (fun p hp => hs p (List.mem_of_mem_take hp)) (by simp [res0]) (by simp [res0])
  have hbn : 0 ≤ (ack3 ps u gs now last).bytes := by
    obtain ⟨k1, _⟩ := new_was now ((marks' ps u gs).zip (ps.drop u)) (ack1 ps u now) (fun q hq => (hs q.2 (List.mem_of_mem_drop (List.of_mem_zip hq).2)).1) b2 b3
    have k : (ack3 ps u gs now last).bytes = (ack1 ps u now).bytes + (((marks' ps u gs).zip (ps.drop u)).map new1).sum := k1
    have hn : 0 ≤ (((marks' ps u gs).zip (ps.drop u)).map new1).sum := by
      have : ∀ l : List (Bool × Pc), (∀ q ∈ l, 1 ≤ q.2.size) → 0 ≤ (l.map new1).sum := by
        intro l
        induction l with
        | nil => intro _; simp
        | cons q l ih =>
          intro hq
          have h1 := ih fun r hr => hq r (List.mem_cons_of_mem _ hr)
          have h2 := hq q (List.mem_cons_self ..)
          simp only [List.map_cons, List.sum_cons]
          unfold new1 at h1 ⊢
          split <;> omega
      exact this _ fun q hq => (hs q.2 (List.mem_of_mem_drop (List.of_mem_zip hq).2)).1
    have b3' : 0 ≤ (ack1 ps u now).bytes := b3
    omega
  refine ⟨⟨⟨fun i q hq => ?_, by rw [h3l]; have := h.right.2; omega⟩, by omega, by rw [h3l]; omega, by omega, by rw [h3l]; omega, by rw [hsz3]; omega, h.allb, fun q hq => ?_⟩, hbn, by omega⟩
  · obtain ⟨p, hp, e1, e2, _, e4, e5⟩ := hat i q hq
    obtain ⟨g1, _, _, g4, g5⟩ := h.right.1 (u + i) p hp
    exact ⟨by rw [e2, g1]; omega, e4, e5, by rw [e1]; exact g4, by rw [e1]; exact g5⟩
  · obtain ⟨i, hi, rfl⟩ := List.getElem_of_mem hq
    obtain ⟨p, hp, _, _, e3, _⟩ := hat i _ (List.getElem?_eq_getElem hi)
    rw [e3]
    exact h.path p (List.mem_of_getElem? hp)
end Go.Proofs.Ythpllkegmjcfaaa
