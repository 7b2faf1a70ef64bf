/- Two messages whose pieces come mixed. -/
import Derived.Test.YtaopomedbbcgcaaFrK
namespace Go.Proofs.Ytaopomedbbcgcaa
set_option linter.unusedVariables false
namespace Fr
/-- What waits while two messages come: at p stands a piece of the one (p < na) or of the other. -/
structure Mx (P : Nat → Fp) (na T : Nat) (left : List Nat) (x : List Fp) : Prop where
  good : Good x
  nd : left.Nodup
  lt : ∀ p ∈ left, p < T
  mem : ∀ y, y ∈ x ↔ ∃ p, p < T ∧ p ∉ left ∧ y = P p ∧ ∃ r ∈ left, (decide (na ≤ r)) = (decide (na ≤ p))
/-- How many are whole. -/
def cntL (na : Nat) (left : List Nat) : Nat := (if ∃ r ∈ left, decide (na ≤ r) = false then 0 else 1) + (if ∃ r ∈ left, decide (na ≤ r) = true then 0 else 1)
theorem Mx.step {P : Nat → Fp} {na T : Nat} {left : List Nat} {x : List Fp} {k p : Nat} (h : Mx P na T left x) {first : Int} (hT : T ≤ 100000) (ht : ∀ p, p < T → (P p).tsn = (first + (p : Nat)) % M)
    (hk : left[k]? = some p) {o : Nat} {s free : Bool} {st sn pp : Int} {ps : List (List UInt8)} (hs : decide (na ≤ p) = s) (ho : ∀ r, r < T → (decide (na ≤ r) = s ↔ o ≤ r ∧ r < o + ps.length)) (hoT : o + ps.length ≤ T)
    (hq : ∀ j, j < ps.length → P (o + j) = bq first o free st sn pp ps j) (hps : ∀ t ∈ ps, t ≠ []) (hN : ps.length ≤ 1000) :
    ((∃ r ∈ left.take k ++ left.drop (k + 1), decide (na ≤ r) = s) → put x (P p) = (x ++ [P p], Mg.zero, false) ∧ Mx P na T (left.take k ++ left.drop (k + 1)) (x ++ [P p])) ∧
    ((¬ ∃ r ∈ left.take k ++ left.drop (k + 1), decide (na ≤ r) = s) → ∃ x', put x (P p) = (x', ⟨(first + (o : Nat)) % M, free, st, sn, pp, ps.flatten⟩, true) ∧ Mx P na T (left.take k ++ left.drop (k + 1)) x') := by
  obtain ⟨hnd, hm⟩ := take_drop_nd hk h.nd
  have hpl : p ∈ left := List.mem_of_getElem? hk
  have hpT := h.lt p hpl
  have hbm := h.mem
  generalize left.take k ++ left.drop (k + 1) = left' at *
  have hinj : ∀ i j, i < T → j < T → P i = P j → i = j := fun i j hi hj e => by
    have e2 : (P i).tsn = (P j).tsn := by rw [e]
    rw [ht i hi, ht j hj] at e2
    unfold M at e2
    omega
  obtain ⟨hp1, hp2⟩ := (ho p hpT).1 hs
  obtain ⟨j0, rfl⟩ : ∃ j0, p = o + j0 := ⟨p - o, by omega⟩
  have hj0 : j0 < ps.length := by omega
  generalize hqe : bq first o free st sn pp ps = q at *
  have hmem : ∀ y, y ∈ x ++ [P (o + j0)] ↔ ∃ r, r < T ∧ r ∉ left' ∧ y = P r ∧ ∃ r' ∈ left, decide (na ≤ r') = decide (na ≤ r) := fun y => by
    rw [List.mem_append, List.mem_singleton, hbm]
    constructor
    · rintro (⟨r, hr, hrl, hy, hx⟩ | hy)
      · exact ⟨r, hr, fun hh => hrl ((hm r).1 hh).1, hy, hx⟩
      · exact ⟨o + j0, hpT, fun hh => ((hm _).1 hh).2 rfl, hy, o + j0, hpl, rfl⟩
    · rintro ⟨r, hr, hrl, hy, hx⟩
      by_cases hrp : r = o + j0
      · subst hrp; exact .inr hy
      · exact .inl ⟨r, hr, fun hh => hrl ((hm r).2 ⟨hh, hrp⟩), hy, hx⟩
  have hnb : q j0 ∉ x := fun hh => by
    rw [← hq j0 hj0] at hh
    obtain ⟨r, hr, hrl, e, _⟩ := (hbm _).1 hh
    rw [hinj _ r hpT hr e] at hpl
    exact hrl hpl
  have hM : Msg (x ++ [q j0]) (first + (o : Nat)) ps.length q := by
    rw [← hqe]
    refine bq_msg (by omega) hN fun y hy => ?_
    rw [hqe, ← hq j0 hj0] at hy
    obtain ⟨r, hr, _, e, _⟩ := (hmem y).1 hy
    by_cases hrs : o ≤ r ∧ r < o + ps.length
    · left
      refine ⟨r - o, by omega, ?_⟩
      rw [hqe, ← hq (r - o) (by omega), e]
      congr 1
      omega
    · right
      intro j hj e2
      rw [e, ht r hr] at e2
      unfold M at e2
      omega
  have htx : (q j0).tx ≠ [] := by rw [← hqe]; exact bq_tx hps hj0
  have hqt : ∀ j : Nat, (q j).tsn = (first + (o : Nat) + (j : Nat)) % M := fun j => by rw [← hqe]; rfl
  have hr0 : 0 ≤ (q j0).tsn ∧ (q j0).tsn < M := by rw [hqt]; unfold M; omega
  have hgl := h.good.snoc hr0 htx (put_find hM hj0 hnb)
  rw [hq j0 hj0] at hmem ⊢
  constructor
  · rintro ⟨r, hrl, hrs⟩
    have hrT := h.lt r ((hm r).1 hrl).1
    have hro := (ho r hrT).1 hrs
    refine ⟨put_part hgl hM hj0 hnb htx ⟨r - o, by omega, fun hh => ?_⟩, hgl, hnd, fun j hj => h.lt j ((hm j).1 hj).1, fun y => ?_⟩
    · rw [← hq (r - o) (by omega), show o + (r - o) = r by omega] at hh
      obtain ⟨r2, hr2, hr2l, e, _⟩ := (hmem _).1 hh
      rw [hinj r r2 hrT hr2 e] at hrl
      exact hr2l hrl
    · rw [hmem]
      constructor
      · rintro ⟨r2, a1, a2, a3, r3, a4, a5⟩
        refine ⟨r2, a1, a2, a3, ?_⟩
        by_cases h3 : r3 = o + j0
        · subst h3; exact ⟨r, hrl, by rw [hrs, ← a5, hs]⟩
        · exact ⟨r3, (hm r3).2 ⟨a4, h3⟩, a5⟩
      · rintro ⟨r2, a1, a2, a3, r3, a4, a5⟩
        exact ⟨r2, a1, a2, a3, r3, ((hm r3).1 a4).1, a5⟩
  · intro he
    have ha : ∀ j, j < ps.length → q j ∈ x ++ [q j0] := fun j hj => by
      rw [← hq j hj]
      refine (hmem _).2 ⟨o + j, by omega, fun hh => he ⟨o + j, hh, (ho _ (by omega)).2 ⟨by omega, by omega⟩⟩, rfl, o + j0, hpl, ?_⟩
      rw [hs, (ho (o + j) (by omega)).2 ⟨by omega, by omega⟩]
    refine ⟨rest (x ++ [q j0]) (places (x ++ [q j0]) (first + (o : Nat)) 0 ps.length), ?_, hgl.sub (rest_sub _ _), hnd, fun j hj => h.lt j ((hm j).1 hj).1, fun y => ?_⟩
    · rw [put_whole hgl hM hj0 hnb htx ha]
      have hfl := bq_text first o free st sn pp ps
      rw [hqe] at hfl
      rw [hfl, hqt 0]
      have h0 : (first + (o : Int) + ((0 : Nat) : Int)) % M = (first + (o : Int)) % M := by simp
      rw [h0, ← hqe]
      rfl
    · rw [hM.rest_iff hgl ha, hmem]
      constructor
      · rintro ⟨⟨r2, a1, a2, a3, r3, a4, a5⟩, hne⟩
        refine ⟨r2, a1, a2, a3, r3, (hm r3).2 ⟨a4, fun h3 => ?_⟩, a5⟩
        subst h3
        rw [hs] at a5
        obtain ⟨b1, b2⟩ := (ho r2 a1).1 a5.symm
        exact hne (r2 - o) (by omega) (by rw [← hq (r2 - o) (by omega), a3]; congr 1; omega)
      · rintro ⟨r2, a1, a2, a3, r3, a4, a5⟩
        refine ⟨⟨r2, a1, a2, a3, r3, ((hm r3).1 a4).1, a5⟩, fun j hj e => ?_⟩
        rw [a3, ← hq j hj] at e
        have e2 := hinj r2 (o + j) a1 (by omega) e
        subst e2
        exact he ⟨r3, a4, by rw [a5]; exact (ho (o + j) a1).2 ⟨by omega, by omega⟩⟩
/-- The pieces of the two. -/
def mxP (first : Int) (pa pb : List (List UInt8)) (p : Nat) : Fp := if p < pa.length then bq first 0 false 1 0 0 pa p else bq first pa.length false 1 1 0 pb (p - pa.length)
theorem mxP_tsn (first : Int) (pa pb : List (List UInt8)) (p : Nat) : (mxP first pa pb p).tsn = (first + (p : Nat)) % M := by
  unfold mxP
  split
  · simp [bq]
  · simp only [bq]
    congr 1
    omega
theorem Mx.go {first : Int} {pa pb : List (List UInt8)} {left : List Nat} {x : List Fp} {k p : Nat} (h : Mx (mxP first pa pb) pa.length (pa.length + pb.length) left x) (ha : ∀ t ∈ pa, t ≠ []) (hb : ∀ t ∈ pb, t ≠ [])
    (hna : pa.length ≤ 1000) (hnb : pb.length ≤ 1000) (hk : left[k]? = some p) : ∃ x' m y, put x (mxP first pa pb p) = (x', m, y) ∧ Mx (mxP first pa pb) pa.length (pa.length + pb.length) (left.take k ++ left.drop (k + 1)) x' ∧
      cntL pa.length (left.take k ++ left.drop (k + 1)) = cntL pa.length left + (if y then 1 else 0) ∧ (y = true → m.sn = 0 ∧ m.tx = pa.flatten ∨ m.sn = 1 ∧ m.tx = pb.flatten) := by
  obtain ⟨hnd, hm⟩ := take_drop_nd hk h.nd
  have hpl : p ∈ left := List.mem_of_getElem? hk
  have hcnt : ∀ s, (∃ r ∈ left.take k ++ left.drop (k + 1), decide (pa.length ≤ r) = s) → ∃ r ∈ left, decide (pa.length ≤ r) = s := fun s ⟨r, h1, h2⟩ => ⟨r, ((hm r).1 h1).1, h2⟩
  have hcn2 : ∀ s, s ≠ decide (pa.length ≤ p) → ((∃ r ∈ left.take k ++ left.drop (k + 1), decide (pa.length ≤ r) = s) ↔ ∃ r ∈ left, decide (pa.length ≤ r) = s) := fun s hs =>
    ⟨hcnt s, fun ⟨r, h1, h2⟩ => ⟨r, (hm r).2 ⟨h1, fun e => hs (by rw [← e, h2])⟩, h2⟩⟩
  have hpT := h.lt p hpl
  have step : ∀ (s : Bool), decide (pa.length ≤ p) = s → ((∃ r ∈ left.take k ++ left.drop (k + 1), decide (pa.length ≤ r) = s) → put x (mxP first pa pb p) = (x ++ [mxP first pa pb p], Mg.zero, false) ∧ Mx (mxP first pa pb) pa.length (pa.length + pb.length) (left.take k ++ left.drop (k + 1)) (x ++ [mxP first pa pb p])) ∧
    ((¬ ∃ r ∈ left.take k ++ left.drop (k + 1), decide (pa.length ≤ r) = s) → ∃ x' m, put x (mxP first pa pb p) = (x', m, true) ∧ (m.sn = 0 ∧ m.tx = pa.flatten ∨ m.sn = 1 ∧ m.tx = pb.flatten) ∧ Mx (mxP first pa pb) pa.length (pa.length + pb.length) (left.take k ++ left.drop (k + 1)) x') := fun s hs => by
    cases s with
    | false =>
      have hp := of_decide_eq_false hs
      obtain ⟨h1, h2⟩ := h.step (first := first) (by omega) (fun p _ => mxP_tsn first pa pb p) hk (o := 0) (s := false) (free := false) (st := 1) (sn := 0) (pp := 0) (ps := pa) hs
        (fun r hr => by simp only [decide_eq_false_iff_not]; omega) (by omega) (fun j hj => by rw [mxP, if_pos (by omega)]; simp) ha hna
      exact ⟨h1, fun hh => by obtain ⟨x', e, h3⟩ := h2 hh; exact ⟨x', _, e, .inl ⟨rfl, rfl⟩, h3⟩⟩
    | true =>
      have hp := of_decide_eq_true hs
      obtain ⟨h1, h2⟩ := h.step (first := first) (by omega) (fun p _ => mxP_tsn first pa pb p) hk (o := pa.length) (s := true) (free := false) (st := 1) (sn := 1) (pp := 0) (ps := pb) hs
        (fun r hr => by simp only [decide_eq_true_eq]; omega) (by omega) (fun j hj => by rw [mxP, if_neg (by omega)]; simp) hb hnb
      exact ⟨h1, fun hh => by obtain ⟨x', e, h3⟩ := h2 hh; exact ⟨x', _, e, .inr ⟨rfl, rfl⟩, h3⟩⟩
  obtain ⟨h1, h2⟩ := step _ rfl
  by_cases hr : ∃ r ∈ left.take k ++ left.drop (k + 1), decide (pa.length ≤ r) = decide (pa.length ≤ p)
  · obtain ⟨e, hx⟩ := h1 hr
    refine ⟨_, _, _, e, hx, ?_, by simp⟩
    unfold cntL
    cases hd : decide (pa.length ≤ p) with
    | false =>
      rw [hd] at hr hcn2
      simp only [if_pos hr, if_pos (hcnt _ hr), hcn2 true (by simp)]
      rfl
    | true =>
      rw [hd] at hr hcn2
      simp only [if_pos hr, if_pos (hcnt _ hr), hcn2 false (by simp)]
      rfl
  · obtain ⟨x', m, e, hm', hx⟩ := h2 hr
    refine ⟨_, _, _, e, hx, ?_, fun _ => hm'⟩
    unfold cntL
    cases hd : decide (pa.length ≤ p) with
    | false =>
      rw [hd] at hr hcn2
      simp only [if_neg hr, if_pos (show ∃ r ∈ left, decide (pa.length ≤ r) = false from ⟨p, hpl, hd⟩), hcn2 true (by simp), if_true]
      omega
    | true =>
      rw [hd] at hr hcn2
      simp only [if_neg hr, if_pos (show ∃ r ∈ left, decide (pa.length ≤ r) = true from ⟨p, hpl, hd⟩), hcn2 false (by simp), if_true]
theorem Mx.start {first : Int} {pa pb : List (List UInt8)} (ha : 0 < pa.length) (hb : 0 < pb.length) : Mx (mxP first pa pb) pa.length (pa.length + pb.length) (List.range (pa.length + pb.length)) [] ∧ cntL pa.length (List.range (pa.length + pb.length)) = 0 := by
  refine ⟨⟨Good.nil, List.nodup_range, fun p hp => List.mem_range.1 hp, fun y => ?_⟩, ?_⟩
  · constructor
    · intro h; cases h
    · rintro ⟨p, hp, hpl, _⟩
      exact absurd (List.mem_range.2 hp) hpl
  · unfold cntL
    rw [if_pos ⟨0, List.mem_range.2 (by omega), decide_eq_false (by omega)⟩, if_pos ⟨pa.length, List.mem_range.2 (by omega), decide_eq_true (by omega)⟩]
theorem Mx.fin {P : Nat → Fp} {na T : Nat} {x : List Fp} (h : Mx P na T [] x) : x = [] ∧ cntL na [] = 2 := by
  refine ⟨List.eq_nil_iff_forall_not_mem.2 fun y hy => ?_, by simp [cntL]⟩
  obtain ⟨_, _, _, _, r, hr, _⟩ := (h.mem y).1 hy
  cases hr
end Fr
end Go.Proofs.Ytaopomedbbcgcaa
