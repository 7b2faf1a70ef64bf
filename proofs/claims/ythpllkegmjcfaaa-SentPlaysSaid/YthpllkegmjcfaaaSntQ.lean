/- What is given up is lost, and sent again is under way: the plain law of SentLosses. -/
import Derived.Test.YthpllkegmjcfaaaSntD
namespace Go.Proofs.Ythpllkegmjcfaaa
open Go.RowKit
set_option linter.unusedVariables false

def sz (ps : List Pc) : Int := (ps.map (·.size)).sum
def l1 (p : Pc) : Int := if p.state = 3 then 1 else 0
def under1 (path : Int) (p : Pc) : Int := if outB p path then p.size else 0
theorem lostN_sum : ∀ ps : List Pc, ((lostN ps).length : Int) = (ps.map l1).sum
  | [] => rfl
  | p :: ps => by
    have := lostN_sum ps
    unfold lostN l1 at this ⊢
    rw [List.filter_cons]
    by_cases h : p.state = 3
    · simp [h] at this ⊢; omega
    · simp [h] at this ⊢; omega
theorem sum_set (f : Pc → Int) : ∀ (l : List Pc) (j : Nat) (a b : Pc), l[j]? = some a → ((l.set j b).map f).sum = (l.map f).sum - f a + f b
  | [], j, a, b, h => by simp at h
  | x :: l, 0, a, b, h => by
    simp at h
    subst h
    simp; omega
  | x :: l, j + 1, a, b, h => by
    have := sum_set f l j a b (by simpa using h)
    simp only [List.set_cons_succ, List.map_cons, List.sum_cons]
    omega
theorem drop_sums (path : Int) : ∀ ps : List Pc, underF path (ps.map (drop1 path)) = 0 ∧ ((ps.map (drop1 path)).map l1).sum = (ps.map l1).sum + (ps.filter fun p => outB p path).length ∧
    underF (-1) (ps.map (drop1 path)) = underF (-1) ps - underF path ps ∧ sz (ps.filter fun p => outB p path) = underF path ps
  | [] => by simp [underF, sz]
  | p :: ps => by
    obtain ⟨g1, g2, g3, g4⟩ := drop_sums path ps
    have hu : ∀ q (r : Pc) (l : List Pc), underF q (r :: l) = under1 q r + underF q l := fun q r l => by simp [underF, under1]
    rw [List.map_cons, hu, hu, hu, hu, g1, g3, List.map_cons, List.map_cons, List.sum_cons, List.sum_cons, g2, List.filter_cons]
    cases ho : outB p path with
    | true =>
      have e : drop1 path p = { p with state := 3, misses := 0 } := by simp [drop1, ho]
      have hs : p.state = 1 := by simp [outB] at ho; exact ho.1
      have e1 : ∀ q, under1 q (drop1 path p) = 0 := fun q => by rw [e]; simp [under1, outB]
      have e2 : l1 (drop1 path p) = 1 := by rw [e]; simp [l1]
      have e3 : l1 p = 0 := by simp [l1, hs]
      have e4 : under1 (-1) p = p.size := by simp [under1, outB, hs]
      have e5 : under1 path p = p.size := by simp [under1, ho]
      rw [e1, e1, e2, e3, e4, e5]
      simp only [if_true, List.length_cons, sz, List.map_cons, List.sum_cons]
      unfold sz at g4
      omega
    | false =>
      have e : drop1 path p = p := by simp [drop1, ho]
      have e5 : under1 path p = 0 := by simp [under1, ho]
      rw [e, e5]
      simp only [Bool.false_eq_true, if_false]
      unfold sz at g4 ⊢
      omega
/-- No two pieces bear one number. -/
def Uniq (ps : List Pc) : Prop := ∀ (i j : Nat) (p q : Pc), ps[i]? = some p → ps[j]? = some q → p.tsn = q.tsn → i = j
theorem RightP.uniq {cum : Int} {ps : List Pc} (h : RightP cum ps) : Uniq ps := fun i j p q hp hq e => by
  have h1 := (h.1 i p hp).1
  have h2 := (h.1 j q hq).1
  have l1 := (List.getElem?_eq_some_iff.1 hp).1
  have l2 := (List.getElem?_eq_some_iff.1 hq).1
  have h3 := h.2
  omega
theorem Uniq.pairwise {ps : List Pc} (h : Uniq ps) : ps.Pairwise (fun a b => a.tsn ≠ b.tsn) := by
  rw [List.pairwise_iff_getElem]
  intro i j hi hj hij e
  have := h i j _ _ (List.getElem?_eq_getElem hi) (List.getElem?_eq_getElem hj) e
  omega
/-- What is so behind i pieces that were sent again. -/
structure Back (ps : List Pc) (path to : Int) (i : Nat) (ts : List Pc) : Prop where
  len : ts.length = ps.length
  same : ∀ (j : Nat) (p q : Pc), ps[j]? = some p → ts[j]? = some q → q.tsn = p.tsn ∧ q.size = p.size
  left : ∀ (k : Nat) (p : Pc), i ≤ k → (ps.filter fun p => outB p path)[k]? = some p → ∃ j : Nat, ps[j]? = some p ∧ ts[j]? = some (drop1 path p)
  on : underF to ts = underF to (ps.map (drop1 path)) + sz ((ps.filter fun p => outB p path).take i)
  all : underF (-1) ts = underF (-1) (ps.map (drop1 path)) + sz ((ps.filter fun p => outB p path).take i)
  lost : (ts.map l1).sum + i = ((ps.map (drop1 path)).map l1).sum
theorem drop1_same (path : Int) (p : Pc) : (drop1 path p).tsn = p.tsn ∧ (drop1 path p).size = p.size := by
  unfold drop1; split <;> exact ⟨rfl, rfl⟩
theorem Back.new (ps : List Pc) (path to : Int) : Back ps path to 0 (ps.map (drop1 path)) := by
  refine ⟨List.length_map _, fun j p q hp hq => ?_, fun k p _ hk => ?_, by simp [sz], by simp [sz], by simp⟩
  · rw [List.getElem?_map, hp] at hq
    simp only [Option.map_some, Option.some.injEq] at hq
    rw [← hq]
    exact drop1_same path p
  · obtain ⟨j, hj, e⟩ := List.getElem_of_mem (List.mem_filter.1 (List.mem_of_getElem? hk)).1
    refine ⟨j, by rw [List.getElem?_eq_getElem hj, e], by rw [List.getElem?_map, List.getElem?_eq_getElem hj, e]; rfl⟩
theorem Back.small {ps ts : List Pc} {path to : Int} {i : Nat} (h : Back ps path to i ts) (hs : Small ps) : Small ts := fun q hq => by
  obtain ⟨j, hj, rfl⟩ := List.getElem_of_mem hq
  have hj' : j < ps.length := by rw [← h.len]; exact hj
  obtain ⟨_, e⟩ := h.same j _ _ (List.getElem?_eq_getElem hj') (List.getElem?_eq_getElem hj)
  rw [e]
  exact hs _ (List.getElem_mem hj')
theorem Back.step {ps ts : List Pc} {path to now : Int} {i : Nat} {p : Pc} (h : Back ps path to i ts) (hu : Uniq ps) (hto : 0 ≤ to) (hp : (ps.filter fun p => outB p path)[i]? = some p) :
    ∃ (j : Nat) (q : Pc), ts.findIdx (isLost p.tsn) = j ∧ ts[j]? = some q ∧ Back ps path to (i + 1) (ts.set j (resent to now q)) ∧ ∀ r ∈ ts.set j (resent to now q), isLost p.tsn r = false := by
  obtain ⟨j, hj, ht⟩ := h.left i p (Nat.le_refl _) hp
  have hob : outB p path = true := (List.mem_filter.1 (List.mem_of_getElem? hp)).2
  have e : drop1 path p = { p with state := 3, misses := 0 } := by simp [drop1, hob]
  have hjt : j < ts.length := (List.getElem?_eq_some_iff.1 ht).1
  have hother : ∀ (j' : Nat) (r : Pc), j' ≠ j → ts[j']? = some r → r.tsn ≠ p.tsn := fun j' r hne hr hEq => by
    have hl : j' < ps.length := by rw [← h.len]; exact (List.getElem?_eq_some_iff.1 hr).1
    obtain ⟨e1, _⟩ := h.same j' _ _ (List.getElem?_eq_getElem hl) hr
    exact hne (hu j' j _ _ (List.getElem?_eq_getElem hl) hj (by rw [← e1, hEq]))
  have hfind : ts.findIdx (isLost p.tsn) = j := findC_take ht (fun j' r hlt hr => by
    have := hother j' r (by omega) hr
    simp [isLost, this]) (by rw [e]; simp [isLost])
  have hget : ∀ j' : Nat, j' ≠ j → (ts.set j (resent to now (drop1 path p)))[j']? = ts[j']? := fun j' hne => List.getElem?_set_ne (by omega)
  have hself : (ts.set j (resent to now (drop1 path p)))[j]? = some (resent to now (drop1 path p)) := List.getElem?_set_self hjt
  have hos : (ps.filter fun p => outB p path).Pairwise (fun a b => a.tsn ≠ b.tsn) := hu.pairwise.sublist List.filter_sublist
  have htk : sz ((ps.filter fun p => outB p path).take (i + 1)) = sz ((ps.filter fun p => outB p path).take i) + p.size := by rw [take_succ hp]; simp [sz]
  refine ⟨j, drop1 path p, hfind, ht, ⟨by rw [List.length_set, h.len], fun j' p' q' hp' hq' => ?_, fun k p' hk hp' => ?_, ?_, ?_, ?_⟩, fun r hr => ?_⟩
  · by_cases hne : j' = j
    · subst hne
      rw [hself] at hq'
      rw [hj] at hp'
      injection hp' with hp'
      injection hq' with hq'
      subst hp' hq'
      exact drop1_same path p
    · rw [hget j' hne] at hq'
      exact h.same j' p' q' hp' hq'
  · obtain ⟨j', e1, e2⟩ := h.left k p' (by omega) hp'
    refine ⟨j', e1, ?_⟩
    have hne : j' ≠ j := fun he => by
      subst he
      rw [hj] at e1
      injection e1 with e1
      subst e1
      obtain ⟨a1, a2⟩ := List.getElem?_eq_some_iff.1 hp
      obtain ⟨b1, b2⟩ := List.getElem?_eq_some_iff.1 hp'
      exact List.pairwise_iff_getElem.1 hos i k a1 b1 (by omega) (by rw [a2, b2])
    rw [hget j' hne, e2]
  · have := sum_set (under1 to) ts j _ (resent to now (drop1 path p)) ht
    have hr : under1 to (resent to now (drop1 path p)) = p.size := by rw [e]; simp [under1, outB, resent]
    have hq : under1 to (drop1 path p) = 0 := by rw [e]; simp [under1, outB]
    have ho := h.on
    unfold underF at ho ⊢
    rw [hr, hq] at this
    rw [htk]
    unfold under1 at this
    omega
  · have := sum_set (under1 (-1)) ts j _ (resent to now (drop1 path p)) ht
    have hr : under1 (-1) (resent to now (drop1 path p)) = p.size := by rw [e]; simp [under1, outB, resent]
    have hq : under1 (-1) (drop1 path p) = 0 := by rw [e]; simp [under1, outB]
    have ho := h.all
    unfold underF at ho ⊢
    rw [hr, hq] at this
    rw [htk]
    unfold under1 at this
    omega
  · have := sum_set l1 ts j _ (resent to now (drop1 path p)) ht
    have hr : l1 (resent to now (drop1 path p)) = 0 := by simp [l1, resent]
    have hq : l1 (drop1 path p) = 1 := by rw [e]; simp [l1]
    have ho := h.lost
    rw [hr, hq] at this
    omega
  · obtain ⟨j', hj', rfl⟩ := List.getElem_of_mem hr
    by_cases hne : j' = j
    · subst hne
      have := hself
      rw [List.getElem?_eq_getElem hj'] at this
      injection this with this
      rw [this]
      simp [isLost, resent]
    · have h1 := hget j' hne
      rw [List.getElem?_eq_getElem hj'] at h1
      have := hother j' _ hne h1.symm
      simp [isLost, this]
end Go.Proofs.Ythpllkegmjcfaaa
