/- Messages in pieces, in plain Lean. -/
import Derived.Test.YtaopomedbbcgcaaStr
namespace Go.Proofs.Ytaopomedbbcgcaa
namespace Fr
/-- A piece. -/
structure Fp where
  tsn : Int
  be : Bool
  en : Bool
  fr : Bool
  st : Int
  sn : Int
  pp : Int
  tx : List UInt8
deriving DecidableEq
structure Mg where
  first : Int
  fr : Bool
  st : Int
  sn : Int
  pp : Int
  tx : List UInt8
deriving DecidableEq
def Mg.zero : Mg := ⟨0, false, 0, 0, 0, []⟩
/-- A number of 32 bits. -/
abbrev M : Int := 4294967296
def kin (a b : Fp) : Bool := a.fr == b.fr && a.st == b.st && (a.fr || a.sn == b.sn)
/-- The place of a number. -/
def find (l : List Fp) (n : Int) : Option Nat := l.findIdx? (fun x => x.tsn == n)
/-- The pieces' numbers are numbers, and each is there but once. -/
structure Good (l : List Fp) : Prop where
  num : ∀ x ∈ l, 0 ≤ x.tsn ∧ x.tsn < M
  one : (l.map (·.tsn)).Nodup
  full : ∀ x ∈ l, x.tx ≠ []
theorem find_some {l : List Fp} {n : Int} {i : Nat} (h : find l n = some i) : ∃ x, l[i]? = some x ∧ x.tsn = n := by
  unfold find at h
  rw [List.findIdx?_eq_some_iff_getElem] at h
  obtain ⟨hi, h1, _⟩ := h
  exact ⟨l[i], List.getElem?_eq_getElem hi, by simpa using h1⟩
theorem find_lt {l : List Fp} {n : Int} {i : Nat} (h : find l n = some i) : i < l.length := by
  obtain ⟨x, hx, _⟩ := find_some h
  exact (List.getElem?_eq_some_iff.1 hx).1
theorem find_none {l : List Fp} {n : Int} : find l n = none ↔ ∀ x ∈ l, x.tsn ≠ n := by
  unfold find
  rw [List.findIdx?_eq_none_iff]
  simp
theorem Good.inj {l : List Fp} (h : Good l) {i j : Nat} {x y : Fp} (hi : l[i]? = some x) (hj : l[j]? = some y) (e : x.tsn = y.tsn) : i = j := by
  obtain ⟨hi', rfl⟩ := List.getElem?_eq_some_iff.1 hi
  obtain ⟨hj', rfl⟩ := List.getElem?_eq_some_iff.1 hj
  have hp := List.pairwise_iff_getElem.1 h.one
  rcases Nat.lt_trichotomy i j with hl | hl | hl
  · exact absurd (by rw [List.getElem_map, List.getElem_map]; exact e) (hp i j (by simpa using hi') (by simpa using hj') hl)
  · exact hl
  · exact absurd (by rw [List.getElem_map, List.getElem_map]; exact e.symm) (hp j i (by simpa using hj') (by simpa using hi') hl)
theorem Good.at {l : List Fp} (h : Good l) {i : Nat} {x : Fp} (hi : l[i]? = some x) : find l x.tsn = some i := by
  cases hf : find l x.tsn with
  | none => exact absurd rfl (find_none.1 hf x (List.mem_of_getElem? hi))
  | some j =>
    obtain ⟨y, hy, e⟩ := find_some hf
    rw [h.inj hy hi e]
/-- From a number on down to the first one: so many steps at most. -/
def back (l : List Fp) (p : Fp) : Nat → Int → Option Int
  | 0, _ => none
  | k + 1, f => match (find l f).bind (l[·]?) with
    | none => none
    | some x => if x.be then some f else match (find l ((f - 1) % M)).bind (l[·]?) with
      | none => none
      | some y => if y.en || !kin y p then none else back l p k ((f - 1) % M)
/-- From the first one on to the last one. -/
def fwd (l : List Fp) (p : Fp) : Nat → Bool → Int → Option (List Nat)
  | 0, _, _ => none
  | k + 1, b, n => match find l n with
    | none => none
    | some i => match l[i]? with
      | none => none
      | some x => if (!b && x.be) || !kin x p then none else if x.en then some [i] else match fwd l p k false ((n + 1) % M) with
        | none => none
        | some r => some (i :: r)
/-- The places of the message that p is in. -/
def row (l : List Fp) (p : Fp) : Option (List Nat) := match back l p l.length p.tsn with
  | none => none
  | some f => fwd l p l.length true f
def texts (l : List Fp) (r : List Nat) : List UInt8 := r.flatMap fun i => match l[i]? with | some x => x.tx | none => []
def msg (l : List Fp) (r : List Nat) : Mg := match (r.head?).bind (l[·]?) with
  | some x => ⟨x.tsn, x.fr, x.st, x.sn, x.pp, texts l r⟩
  | none => Mg.zero
/-- What stands at none of these places. -/
def rest (l : List Fp) (r : List Nat) : List Fp := (l.zipIdx.filter fun x => !r.contains x.2).map (·.1)
/-- F2 -/
def put (b : List Fp) (p : Fp) : List Fp × Mg × Bool :=
  if p.tx = [] ∨ (find b p.tsn).isSome then (b, Mg.zero, false) else
  match row (b ++ [p]) p with
  | none => (b ++ [p], Mg.zero, false)
  | some r => (rest (b ++ [p]) r, msg (b ++ [p]) r, true)
def size (b : List Fp) : Nat := (b.map (·.tx.length)).sum
def opens (b : List Fp) : List Int := (b.filter (·.be)).map (·.tsn)
theorem Good.nil : Good [] := ⟨by simp, by simp, by simp⟩
theorem Good.snoc {b : List Fp} {p : Fp} (h : Good b) (hp : 0 ≤ p.tsn ∧ p.tsn < M) (ht : p.tx ≠ []) (hf : find b p.tsn = none) : Good (b ++ [p]) := by
  refine ⟨fun x hx => ?_, ?_, fun x hx => ?_⟩
  · rcases List.mem_append.1 hx with hx | hx
    · exact h.num x hx
    · rw [List.mem_singleton.1 hx]; exact hp
  · rw [List.map_append, List.nodup_append]
    refine ⟨h.one, by simp, fun a ha b' hb => ?_⟩
    simp only [List.map_cons, List.map_nil, List.mem_singleton] at hb
    subst hb
    obtain ⟨x, hx, rfl⟩ := List.mem_map.1 ha
    exact find_none.1 hf x hx
  · rcases List.mem_append.1 hx with hx | hx
    · exact h.full x hx
    · rw [List.mem_singleton.1 hx]; exact ht
theorem rest_sub (l : List Fp) (r : List Nat) : List.Sublist (rest l r) l := by
  have h1 := (List.filter_sublist (l := l.zipIdx) (p := fun x => !r.contains x.2)).map (·.1)
  have h2 : l.zipIdx.map (·.1) = l := by simp
  rw [h2] at h1
  exact h1
theorem Good.sub {l m : List Fp} (h : Good l) (hs : List.Sublist m l) : Good m :=
  ⟨fun x hx => h.num x (hs.subset hx), (hs.map _).nodup h.one, fun x hx => h.full x (hs.subset hx)⟩
theorem put_good {b : List Fp} {p : Fp} (h : Good b) (hp : 0 ≤ p.tsn ∧ p.tsn < M) : Good (put b p).1 := by
  unfold put
  split
  · exact h
  · rename_i hn
    rw [not_or] at hn
    have hg := h.snoc hp hn.1 (by cases hf : find b p.tsn with
      | none => rfl
      | some i => rw [hf] at hn; simp at hn)
    split
    · exact hg
    · exact hg.sub (rest_sub _ _)
/-- The pieces of one message: the only ones in l with its numbers. -/
structure Msg (l : List Fp) (t0 : Int) (N : Nat) (q : Nat → Fp) : Prop where
  pos : 0 < N
  most : N ≤ 2147483648
  tsn : ∀ j, j < N → (q j).tsn = (t0 + j) % M
  be : ∀ j, j < N → (q j).be = decide (j = 0)
  en : ∀ j, j < N → (q j).en = decide (j + 1 = N)
  kin : ∀ i j, i < N → j < N → Fr.kin (q i) (q j) = true
  only : ∀ x ∈ l, ∀ j, j < N → x.tsn = (t0 + j) % M → x = q j
section
variable {l : List Fp} {t0 : Int} {N : Nat} {q : Nat → Fp}
theorem Msg.look (h : Msg l t0 N q) (hg : Good l) {j : Nat} (hj : j < N) (hm : q j ∈ l) : ∃ i, find l ((t0 + j) % M) = some i ∧ l[i]? = some (q j) := by
  obtain ⟨i, hi, e⟩ := List.getElem_of_mem hm
  have : l[i]? = some (q j) := by rw [List.getElem?_eq_getElem hi, e]
  exact ⟨i, by rw [← h.tsn j hj]; exact hg.at this, this⟩
theorem Msg.miss (h : Msg l t0 N q) {j : Nat} (hj : j < N) (hm : q j ∉ l) : find l ((t0 + j) % M) = none :=
  find_none.2 fun x hx e => hm (h.only x hx j hj e ▸ hx)
theorem Msg.bind (h : Msg l t0 N q) (hg : Good l) {j : Nat} (hj : j < N) (hm : q j ∈ l) : (find l ((t0 + j) % M)).bind (l[·]?) = some (q j) := by
  obtain ⟨i, h1, h2⟩ := h.look hg hj hm
  rw [h1]; exact h2
theorem down (t0 : Int) (m : Nat) : ((t0 + (m + 1 : Nat)) % M - 1) % M = (t0 + m) % M := by unfold M; omega
theorem up (t0 : Int) (m : Nat) : ((t0 + m) % M + 1) % M = (t0 + (m + 1 : Nat)) % M := by unfold M; omega
theorem Msg.back_yes (h : Msg l t0 N q) (hg : Good l) {k : Nat} (hk : k < N) : ∀ (m K : Nat), m ≤ k → m < K → (∀ j, j ≤ m → q j ∈ l) → back l (q k) K ((t0 + m) % M) = some ((t0 + (0 : Nat)) % M)
  | 0, K + 1, _, _, ha => by
    rw [back, h.bind hg h.pos (ha 0 (Nat.le_refl _))]
    simp [h.be 0 h.pos]
  | m + 1, K + 1, hmk, hK, ha => by
    rw [back, h.bind hg (by omega) (ha (m + 1) (Nat.le_refl _)), down]
    simp only [h.be (m + 1) (by omega)]
    rw [h.bind hg (by omega) (ha m (by omega))]
    have he : (q m).en = false := by rw [h.en m (by omega)]; exact decide_eq_false (by omega)
    have hkin := h.kin m k (by omega) hk
    simp only [he, hkin]
    simpa using h.back_yes hg hk m K (by omega) (by omega) fun j hj => ha j (by omega)
theorem Msg.back_no (h : Msg l t0 N q) (hg : Good l) {k : Nat} (hk : k < N) : ∀ (m K : Nat), m ≤ k → q m ∈ l → (∃ j, j < m ∧ q j ∉ l) → back l (q k) K ((t0 + m) % M) = none
  | _, 0, _, _, _ => rfl
  | 0, K + 1, _, _, ⟨j, hj, _⟩ => by omega
  | m + 1, K + 1, hmk, hm, ⟨j, hj, hn⟩ => by
    rw [back, h.bind hg (by omega) hm, down]
    simp only [h.be (m + 1) (by omega)]
    by_cases hq : q m ∈ l
    · rw [h.bind hg (by omega) hq]
      have hjm : j ≠ m := fun e => hn (e ▸ hq)
      have := h.back_no hg hk m K (by omega) hq ⟨j, by omega, hn⟩
      simp [this]
    · rw [h.miss (by omega) hq]
      simp
/-- Where they stand. -/
def places (l : List Fp) (t0 : Int) (m c : Nat) : List Nat := (List.range' m c).map fun j => (find l ((t0 + (j : Nat)) % M)).getD 0
theorem Msg.fwd_yes (h : Msg l t0 N q) (hg : Good l) {k : Nat} (hk : k < N) : ∀ (c m K : Nat), m + c = N → 0 < c → c ≤ K → (∀ j, j < N → q j ∈ l) → fwd l (q k) K (decide (m = 0)) ((t0 + m) % M) = some (places l t0 m c)
  | c + 1, m, K + 1, hm, _, hK, ha => by
    obtain ⟨i, h1, h2⟩ := h.look hg (j := m) (by omega) (ha m (by omega))
    have hb := h.be m (by omega)
    have he := h.en m (by omega)
    have hkin := h.kin m k (by omega) hk
    rw [fwd, h1]
    simp only [h2, hb, hkin, he, up]
    rw [if_neg (by simp)]
    by_cases hc : m + 1 = N
    · obtain rfl : c = 0 := by omega
      simp [hc, places, h1]
    · rw [decide_eq_false hc]
      have := h.fwd_yes hg hk c (m + 1) K (by omega) (by omega) (by omega) ha
      rw [decide_eq_false (by omega)] at this
      rw [this]
      simp [places, List.range'_succ, h1]
theorem Msg.fwd_no (h : Msg l t0 N q) (hg : Good l) {k : Nat} (hk : k < N) : ∀ (K m : Nat) (b : Bool), (∃ j, m ≤ j ∧ j < N ∧ q j ∉ l) → fwd l (q k) K b ((t0 + m) % M) = none
  | 0, _, _, _ => rfl
  | K + 1, m, b, ⟨j, hmj, hj, hn⟩ => by
    by_cases hq : q m ∈ l
    · have hjm : j ≠ m := fun e => hn (e ▸ hq)
      obtain ⟨i, h1, h2⟩ := h.look hg (j := m) (by omega) hq
      have he : (q m).en = false := by rw [h.en m (by omega)]; exact decide_eq_false (by omega)
      have := h.fwd_no hg hk K (m + 1) false ⟨j, by omega, hj, hn⟩
      rw [fwd, h1]
      simp only [h2, he, up, this]
      split <;> rfl
    · rw [fwd, h.miss (by omega) hq]
theorem sub_len {α : Type} [DecidableEq α] : ∀ (a b : List α), a.Nodup → (∀ x ∈ a, x ∈ b) → a.length ≤ b.length
  | [], _, _, _ => by simp
  | x :: a, b, hn, hs => by
    rw [List.nodup_cons] at hn
    have hx := hs x (by simp)
    have := sub_len a (b.erase x) hn.2 fun y hy => (List.mem_erase_of_ne (fun e => hn.1 (by rw [← e]; exact hy))).2 (hs y (by simp [hy]))
    rw [List.length_erase_of_mem hx] at this
    have := List.length_pos_of_mem hx
    simp only [List.length_cons]
    omega
theorem Msg.inj (h : Msg l t0 N q) {i j : Nat} (hi : i < N) (hj : j < N) (e : q i = q j) : i = j := by
  have h1 := h.tsn i hi
  have h2 := h.tsn j hj
  have := h.most
  rw [e, h2] at h1
  unfold M at h1
  omega
theorem Msg.len (h : Msg l t0 N q) {m : Nat} (hm : m ≤ N) (ha : ∀ j, j < m → q j ∈ l) : m ≤ l.length := by
  have := sub_len ((List.range m).map q) l (by
    rw [List.nodup_iff_pairwise_ne, List.pairwise_map]
    refine (List.pairwise_lt_range).imp_of_mem ?_
    intro a b ha hb hab e
    have := h.inj (by have := List.mem_range.1 ha; omega) (by have := List.mem_range.1 hb; omega) e
    omega) (fun x hx => by
    obtain ⟨j, hj, rfl⟩ := List.mem_map.1 hx
    exact ha j (List.mem_range.1 hj))
  simpa using this
/-- All its pieces are there: they are the row. -/
theorem Msg.row_yes (h : Msg l t0 N q) (hg : Good l) {k : Nat} (hk : k < N) (ha : ∀ j, j < N → q j ∈ l) : row l (q k) = some (places l t0 0 N) := by
  have hl := h.len (Nat.le_refl _) ha
  have := h.pos
  rw [row, h.tsn k hk, h.back_yes hg hk k l.length (Nat.le_refl _) (by omega) fun j hj => ha j (by omega)]
  exact h.fwd_yes hg hk N 0 l.length (by omega) (by omega) (by omega) ha
/-- One is not there: there is no row. -/
theorem Msg.row_no (h : Msg l t0 N q) (hg : Good l) {k : Nat} (hk : k < N) (hq : q k ∈ l) (hn : ∃ j, j < N ∧ q j ∉ l) : row l (q k) = none := by
  obtain ⟨j, hj, hn⟩ := hn
  rw [row, h.tsn k hk]
  by_cases hb : ∀ i, i ≤ k → q i ∈ l
  · have hl := h.len (m := k + 1) (by omega) fun i hi => hb i (by omega)
    rw [h.back_yes hg hk k l.length (Nat.le_refl _) (by omega) hb]
    exact h.fwd_no hg hk _ 0 true ⟨j, by omega, hj, hn⟩
  · have : ∃ i, i < k ∧ q i ∉ l := by
      rcases Classical.not_forall.1 hb with ⟨i, hi⟩
      rcases Classical.not_imp.1 hi with ⟨h1, h2⟩
      refine ⟨i, ?_, h2⟩
      have : i ≠ k := fun e => h2 (e ▸ hq)
      omega
    rw [h.back_no hg hk k _ (Nat.le_refl _) hq this]
theorem Msg.places_get (h : Msg l t0 N q) (hg : Good l) (ha : ∀ j, j < N → q j ∈ l) : (places l t0 0 N).map (l[·]?) = (List.range N).map fun j => some (q j) := by
  unfold places
  rw [List.map_map, List.range_eq_range']
  refine List.map_congr_left fun j hj => ?_
  have hj' : j < N := by have := List.mem_range'_1.1 hj; omega
  obtain ⟨i, h1, h2⟩ := h.look hg hj' (ha j hj')
  simp [h1, h2]
theorem texts_eq {l : List Fp} : ∀ {r : List Nat} {qs : List Fp}, r.map (l[·]?) = qs.map some → texts l r = qs.flatMap (·.tx)
  | [], [], _ => rfl
  | [], _ :: _, h => by simp at h
  | _ :: _, [], h => by simp at h
  | i :: r, x :: qs, h => by
    simp only [List.map_cons, List.cons.injEq] at h
    unfold texts
    rw [List.flatMap_cons, List.flatMap_cons, h.1]
    have := texts_eq h.2
    unfold texts at this
    rw [this]
theorem mem_rest {l : List Fp} {r : List Nat} {x : Fp} : x ∈ rest l r ↔ ∃ i, l[i]? = some x ∧ i ∉ r := by
  unfold rest
  simp only [List.mem_map, List.mem_filter, Bool.not_eq_true', List.contains_eq_mem, decide_eq_false_iff_not]
  constructor
  · rintro ⟨⟨y, i⟩, ⟨h1, h2⟩, rfl⟩
    rw [List.mem_zipIdx_iff_getElem?] at h1
    exact ⟨i, h1, h2⟩
  · rintro ⟨i, h1, h2⟩
    exact ⟨(x, i), ⟨List.mem_zipIdx_iff_getElem?.2 h1, h2⟩, rfl⟩
/-- What waits behind a message that is whole: all but its pieces. -/
theorem Msg.rest_iff (h : Msg l t0 N q) (hg : Good l) (ha : ∀ j, j < N → q j ∈ l) {x : Fp} : x ∈ rest l (places l t0 0 N) ↔ x ∈ l ∧ ∀ j, j < N → x ≠ q j := by
  rw [mem_rest]
  have hp : ∀ i, i ∈ places l t0 0 N ↔ ∃ j, j < N ∧ l[i]? = some (q j) := fun i => by
    unfold places
    simp only [List.mem_map]
    constructor
    · rintro ⟨j, hj, rfl⟩
      have hj' : j < N := by have := List.mem_range'_1.1 hj; omega
      obtain ⟨i, h1, h2⟩ := h.look hg hj' (ha j hj')
      exact ⟨j, hj', by rw [h1]; exact h2⟩
    · rintro ⟨j, hj, hi⟩
      refine ⟨j, List.mem_range'_1.2 ⟨by omega, by omega⟩, ?_⟩
      rw [← h.tsn j hj, hg.at hi]; rfl
  constructor
  · rintro ⟨i, h1, h2⟩
    refine ⟨List.mem_of_getElem? h1, fun j hj e => h2 ((hp i).2 ⟨j, hj, by rw [h1, e]⟩)⟩
  · rintro ⟨h1, h2⟩
    obtain ⟨i, hi, e⟩ := List.getElem_of_mem h1
    have hx : l[i]? = some x := by rw [List.getElem?_eq_getElem hi, e]
    refine ⟨i, hx, fun hm => ?_⟩
    obtain ⟨j, hj, hq⟩ := (hp i).1 hm
    rw [hx] at hq
    exact h2 j hj (by injection hq)
end
theorem fwd_find {l : List Fp} {p : Fp} : ∀ (k : Nat) (b : Bool) (n : Int) (r : List Nat), 0 ≤ n ∧ n < M → fwd l p k b n = some r → r.length ≤ k ∧ 0 < r.length ∧ ∀ j i, r[j]? = some i → find l ((n + (j : Nat)) % M) = some i
  | 0, _, _, _, _, h => by simp [fwd] at h
  | k + 1, b, n, r, hn, h => by
    rw [fwd] at h
    cases hf : find l n with
    | none => rw [hf] at h; simp at h
    | some i0 =>
      have h0 : ∀ i, find l ((n + ((0 : Nat) : Int)) % M) = some i ↔ i0 = i := fun i => by
        rw [show (n + ((0 : Nat) : Int)) % M = n from by unfold M at *; omega, hf]
        simp
      rw [hf] at h
      cases hx : l[i0]? with
      | none => simp [hx] at h
      | some x =>
        simp only [hx] at h
        split at h
        · cases h
        · split at h
          · injection h with h
            subst h
            refine ⟨by simp, by simp, fun j i hj => ?_⟩
            cases j with
            | zero => simp at hj; exact (h0 i).2 hj
            | succ j => simp at hj
          · cases hr : fwd l p k false ((n + 1) % M) with
            | none => rw [hr] at h; cases h
            | some r' =>
              rw [hr] at h
              injection h with h
              subst h
              obtain ⟨h1, h2, h3⟩ := fwd_find k false ((n + 1) % M) r' (by unfold M; omega) hr
              refine ⟨by simp; omega, by simp, fun j i hj => ?_⟩
              cases j with
              | zero => simp at hj; exact (h0 i).2 hj
              | succ j =>
                have := h3 j i (by simpa using hj)
                rw [← this]
                congr 1
                unfold M
                omega
theorem back_range {l : List Fp} {p : Fp} : ∀ (k : Nat) (f g : Int), 0 ≤ f ∧ f < M → back l p k f = some g → 0 ≤ g ∧ g < M
  | 0, _, _, _, h => by simp [back] at h
  | k + 1, f, g, hf, h => by
    rw [back] at h
    split at h
    · cases h
    · split at h
      · injection h with h; subst h; exact hf
      · split at h
        · cases h
        · split at h
          · cases h
          · exact back_range k _ g (by unfold M; omega) h
/-- What a row's places are. -/
structure Places (l : List Fp) (r : List Nat) : Prop where
  pos : 0 < r.length
  most : r.length ≤ l.length
  one : r.Nodup
  at_ : ∀ i ∈ r, i < l.length
theorem row_places {l : List Fp} {p : Fp} {r : List Nat} (hp : 0 ≤ p.tsn ∧ p.tsn < M) (hl : l.length ≤ 1000000000) (h : row l p = some r) : Places l r := by
  unfold row at h
  cases hb : back l p l.length p.tsn with
  | none => rw [hb] at h; cases h
  | some f =>
    rw [hb] at h
    have hf := back_range _ _ _ hp hb
    obtain ⟨h1, h2, h3⟩ := fwd_find _ _ _ _ hf h
    refine ⟨h2, h1, ?_, fun i hi => ?_⟩
    · rw [List.nodup_iff_pairwise_ne, List.pairwise_iff_getElem]
      intro a b ha hb2 hab e
      have ea := h3 a _ (List.getElem?_eq_getElem ha)
      have eb := h3 b _ (List.getElem?_eq_getElem hb2)
      obtain ⟨x, hx, hxa⟩ := find_some ea
      obtain ⟨y, hy, hyb⟩ := find_some eb
      rw [e, hy] at hx
      injection hx with hx
      rw [hx, hxa] at hyb
      unfold M at *
      omega
    · obtain ⟨j, hj, rfl⟩ := List.getElem_of_mem hi
      exact find_lt (h3 j _ (List.getElem?_eq_getElem hj))
/-- A piece whose text went. -/
def Fp.bare (x : Fp) : Fp := { x with tx := [] }
/-- What stands at these places is bare. -/
def blank (l : List Fp) (r : List Nat) : List Fp := l.zipIdx.map fun x => if x.2 ∈ r then x.1.bare else x.1
theorem blank_nil (l : List Fp) : blank l [] = l := by simp [blank]
theorem blank_len (l : List Fp) (r : List Nat) : (blank l r).length = l.length := by simp [blank]
theorem blank_get (l : List Fp) (r : List Nat) (k : Nat) : (blank l r)[k]? = l[k]?.map fun x => if k ∈ r then x.bare else x := by
  unfold blank
  rw [List.getElem?_map, List.getElem?_zipIdx]
  cases l[k]? <;> simp
theorem blank_set {l : List Fp} {r : List Nat} {k : Nat} {x : Fp} (hx : l[k]? = some x) : (blank l r).set k x.bare = blank l (r ++ [k]) := by
  apply List.ext_getElem?
  intro j
  have hk : k < l.length := (List.getElem?_eq_some_iff.1 hx).1
  rw [blank_get, List.getElem?_set]
  by_cases e : k = j
  · subst e
    rw [if_pos rfl, if_pos (by rw [blank_len]; exact hk), hx]
    simp
  · rw [if_neg e, blank_get]
    cases l[j]? with
    | none => rfl
    | some y =>
      have e2 : ¬ j = k := fun h => e h.symm
      simp [e2]
theorem rest_blank {l : List Fp} (h : ∀ x ∈ l, x.tx ≠ []) (r : List Nat) : (blank l r).filter (fun x => !(x.tx == [])) = rest l r := by
  unfold blank rest
  rw [List.filter_map]
  have : ∀ x ∈ l.zipIdx, ((fun x : Fp => !(x.tx == [])) ∘ fun x : Fp × Nat => if x.2 ∈ r then x.1.bare else x.1) x = !r.contains x.2 := fun x hx => by
    have hm : x.1 ∈ l := by
      have := List.mem_zipIdx_iff_getElem?.1 (show (x.1, x.2) ∈ l.zipIdx from hx)
      exact List.mem_of_getElem? this
    have hne := h x.1 hm
    by_cases e : x.2 ∈ r
    · simp [e, Fp.bare]
    · simp [e, hne]
  rw [List.filter_congr this]
  refine List.map_congr_left fun x hx => ?_
  have := (List.mem_filter.1 hx).2
  simp only [Bool.not_eq_true', List.contains_eq_mem, decide_eq_false_iff_not] at this
  simp [this]
theorem texts_snoc {l : List Fp} {r : List Nat} {k : Nat} {x : Fp} (hx : l[k]? = some x) : texts l (r ++ [k]) = texts l r ++ x.tx := by simp [texts, hx]
theorem texts_le {l : List Fp} (h : ∀ x ∈ l, x.tx.length ≤ 30000) : ∀ r : List Nat, (texts l r).length ≤ 30000 * r.length
  | [] => by simp [texts]
  | i :: r => by
    have ih := texts_le h r
    have e : texts l (i :: r) = (match l[i]? with | some x => x.tx | none => []) ++ texts l r := by simp [texts]
    rw [e, List.length_append, List.length_cons]
    cases hx : l[i]? with
    | none => simp; omega
    | some x => have := h x (List.mem_of_getElem? hx); simp only; omega
theorem msg_eq {l : List Fp} {r : List Nat} {k : Nat} {x : Fp} (hk : r[0]? = some k) (hx : l[k]? = some x) : msg l r = ⟨x.tsn, x.fr, x.st, x.sn, x.pp, texts l r⟩ := by
  unfold msg
  rw [List.head?_eq_getElem?, hk]
  simp [hx]
theorem put_empty {b : List Fp} {p : Fp} (h : p.tx = []) : put b p = (b, Mg.zero, false) := by rw [put, if_pos (.inl h)]
theorem put_again {b : List Fp} {p : Fp} (h : (find b p.tsn).isSome = true) : put b p = (b, Mg.zero, false) := by rw [put, if_pos (.inr h)]
theorem put_new {b : List Fp} {p : Fp} (h1 : p.tx ≠ []) (h2 : find b p.tsn = none) : put b p = match row (b ++ [p]) p with
  | none => (b ++ [p], Mg.zero, false)
  | some r => (rest (b ++ [p]) r, msg (b ++ [p]) r, true) := by
  rw [put, if_neg (by simp [h1, h2])]
end Fr

end Go.Proofs.Ytaopomedbbcgcaa
