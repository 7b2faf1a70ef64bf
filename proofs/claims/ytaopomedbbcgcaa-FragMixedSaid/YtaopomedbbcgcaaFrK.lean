/- The pieces of a message in whatever order. -/
import Derived.Test.YtaopomedbbcgcaaFrL
import Derived.Test.YtaopomedbbcgcaaFrC
namespace Go.Proofs.Ytaopomedbbcgcaa
set_option linter.unusedVariables false
namespace Fr
section
variable {b : List Fp} {t0 : Int} {N : Nat} {q : Nat → Fp} {n : Nat}
theorem put_find (hM : Msg (b ++ [q n]) t0 N q) (hn : n < N) (hb : q n ∉ b) : find b (q n).tsn = none :=
  find_none.2 fun x hx e => hb (hM.only x (List.mem_append_left _ hx) n hn (by rw [e, hM.tsn n hn]) ▸ hx)
/-- One is not there. -/
theorem put_part (hg : Good (b ++ [q n])) (hM : Msg (b ++ [q n]) t0 N q) (hn : n < N) (hb : q n ∉ b) (ht : (q n).tx ≠ []) (hj : ∃ j, j < N ∧ q j ∉ b ++ [q n]) : put b (q n) = (b ++ [q n], Mg.zero, false) := by
  rw [put_new ht (put_find hM hn hb), hM.row_no hg hn (by simp) hj]
/-- All are there. -/
theorem put_whole (hg : Good (b ++ [q n])) (hM : Msg (b ++ [q n]) t0 N q) (hn : n < N) (hb : q n ∉ b) (ht : (q n).tx ≠ []) (ha : ∀ j, j < N → q j ∈ b ++ [q n]) :
    put b (q n) = (rest (b ++ [q n]) (places (b ++ [q n]) t0 0 N), ⟨(q 0).tsn, (q 0).fr, (q 0).st, (q 0).sn, (q 0).pp, ((List.range N).map fun j => (q j).tx).flatten⟩, true) := by
  rw [put_new ht (put_find hM hn hb), hM.row_yes hg hn ha]
  have hp := hM.places_get hg ha
  have hN := hM.pos
  have h0 : ((places (b ++ [q n]) t0 0 N).map ((b ++ [q n])[·]?))[0]? = some (some (q 0)) := by
    rw [hp, List.getElem?_map, List.getElem?_range hN]; rfl
  rw [List.getElem?_map] at h0
  cases hk : (places (b ++ [q n]) t0 0 N)[0]? with
  | none => rw [hk] at h0; cases h0
  | some k =>
    rw [hk] at h0
    have hx : (b ++ [q n])[k]? = some (q 0) := by simpa using h0
    have ht2 := texts_eq (qs := (List.range N).map q) (r := places (b ++ [q n]) t0 0 N) (l := b ++ [q n]) (by rw [hp, List.map_map]; rfl)
    simp only
    rw [msg_eq hk hx, ht2, List.flatMap_map, List.flatMap_def]
end
/-- The piece at place j of a message. -/
def bq (first : Int) (off : Nat) (free : Bool) (st sn pp : Int) (ps : List (List UInt8)) (j : Nat) : Fp := ⟨(first + (off : Nat) + (j : Nat)) % M, decide (j = 0), decide (j + 1 = ps.length), free, st, sn, pp, ps.getD j []⟩
theorem bq_msg {first : Int} {off : Nat} {free : Bool} {st sn pp : Int} {ps : List (List UInt8)} {l : List Fp} (h0 : 0 < ps.length) (h1 : ps.length ≤ 1000)
    (h : ∀ x ∈ l, (∃ j, j < ps.length ∧ x = bq first off free st sn pp ps j) ∨ ∀ j : Nat, j < ps.length → x.tsn ≠ (first + (off : Nat) + (j : Nat)) % M) : Msg l (first + (off : Nat)) ps.length (bq first off free st sn pp ps) where
  pos := h0
  most := by omega
  tsn j _ := rfl
  be j _ := rfl
  en j _ := rfl
  kin i j _ _ := by simp [Fr.kin, bq]
  only x hx j hj e := by
    rcases h x hx with ⟨i, hi, rfl⟩ | h
    · have : (first + (off : Nat) + (i : Nat)) % M = (first + (off : Nat) + (j : Nat)) % M := e
      unfold M at this
      obtain rfl : i = j := by omega
      rfl
    · exact absurd e (h j hj)
theorem bq_tx {first : Int} {off : Nat} {free : Bool} {st sn pp : Int} {ps : List (List UInt8)} (h : ∀ t ∈ ps, t ≠ []) {j : Nat} (hj : j < ps.length) : (bq first off free st sn pp ps j).tx ≠ [] := by
  unfold bq
  simp only
  rw [List.getD_eq_getElem?_getD, List.getElem?_eq_getElem hj]
  exact h _ (List.getElem_mem hj)
theorem bq_text (first : Int) (off : Nat) (free : Bool) (st sn pp : Int) (ps : List (List UInt8)) : ((List.range ps.length).map fun j => (bq first off free st sn pp ps j).tx) = ps := by
  apply List.ext_getElem?
  intro i
  rw [List.getElem?_map]
  by_cases h : i < ps.length
  · rw [List.getElem?_range h, List.getElem?_eq_getElem h]
    simp [bq, h]
  · rw [List.getElem?_eq_none (by simpa using h), List.getElem?_eq_none (by simpa using h)]
    rfl
/-- The piece of another message. -/
def other (first : Int) (free : Bool) (st : Int) : Fp := ⟨(first - 1) % M, true, false, !free, st, 0, 0, [111, 116, 104, 101, 114]⟩
/-- What waits while a message comes. -/
structure Bk (first : Int) (free : Bool) (st : Int) (ps : List (List UInt8)) (left : List Nat) (b : List Fp) : Prop where
  good : Good b
  nd : left.Nodup
  lt : ∀ j ∈ left, j < ps.length
  mem : ∀ x, x ∈ b ↔ x = other first free st ∨ ∃ j, j < ps.length ∧ j ∉ left ∧ x = bq first 0 free st 7 9 ps j
theorem take_drop_nd {left : List Nat} {k n : Nat} (hk : left[k]? = some n) (hn : left.Nodup) : (left.take k ++ left.drop (k + 1)).Nodup ∧ ∀ j, j ∈ left.take k ++ left.drop (k + 1) ↔ j ∈ left ∧ j ≠ n := by
  obtain ⟨hkl, hkn⟩ := List.getElem?_eq_some_iff.1 hk
  have e : left = left.take k ++ n :: left.drop (k + 1) := by
    conv => lhs; rw [← List.take_append_drop k left, List.drop_eq_getElem_cons hkl, hkn]
  generalize left.take k = a at *
  generalize left.drop (k + 1) = c at *
  subst e
  rw [List.nodup_append, List.nodup_cons] at hn
  obtain ⟨h1, ⟨h2, h3⟩, h4⟩ := hn
  refine ⟨List.nodup_append.2 ⟨h1, h3, fun x hx y hy => h4 x hx y (List.mem_cons_of_mem _ hy)⟩, fun j => ?_⟩
  have ha : n ∉ a := fun h => h4 n h n (by simp) rfl
  simp only [List.mem_append, List.mem_cons]
  constructor
  · rintro (h | h)
    · exact ⟨.inl h, fun e => ha (e ▸ h)⟩
    · exact ⟨.inr (.inr h), fun e => h2 (e ▸ h)⟩
  · rintro ⟨h | h | h, hne⟩
    · exact .inl h
    · exact absurd h hne
    · exact .inr h
theorem all_one {l : List Fp} {x : Fp} (hg : Good l) (h : ∀ y, y ∈ l ↔ y = x) : l = [x] := by
  match l, h, hg with
  | [], h, _ => exact absurd ((h x).2 rfl) (by simp)
  | [y], h, _ => rw [(h y).1 (by simp)]
  | y :: z :: l, h, hg =>
    have h1 := (h y).1 (by simp)
    have h2 := (h z).1 (by simp)
    have := hg.one
    rw [h1, h2] at this
    simp at this
theorem Bk.step {first : Int} {free : Bool} {st : Int} {ps : List (List UInt8)} {left : List Nat} {b : List Fp} {k n : Nat} (h : Bk first free st ps left b) (hf : 0 ≤ first ∧ first < M) (hk : left[k]? = some n) (hps : ∀ t ∈ ps, t ≠ []) (hN : ps.length ≤ 1000) :
    (left.take k ++ left.drop (k + 1) ≠ [] → put b (bq first 0 free st 7 9 ps n) = (b ++ [bq first 0 free st 7 9 ps n], Mg.zero, false) ∧ Bk first free st ps (left.take k ++ left.drop (k + 1)) (b ++ [bq first 0 free st 7 9 ps n])) ∧
    (left.take k ++ left.drop (k + 1) = [] → put b (bq first 0 free st 7 9 ps n) = ([other first free st], ⟨first, free, st, 7, 9, ps.flatten⟩, true)) := by
  obtain ⟨hnd, hm⟩ := take_drop_nd hk h.nd
  have hnl : n ∈ left := List.mem_of_getElem? hk
  have hn := h.lt n hnl
  have hbm := h.mem
  generalize left.take k ++ left.drop (k + 1) = left' at *
  generalize hq : bq first 0 free st 7 9 ps = q at *
  have hqt : ∀ j : Nat, (q j).tsn = (first + (0 : Nat) + (j : Nat)) % M := fun j => by rw [← hq]; rfl
  have hoq : ∀ j, j < ps.length → other first free st ≠ q j := fun j hj e => by
    have e2 : (other first free st).tsn = (q j).tsn := by rw [e]
    rw [hqt j] at e2
    unfold other M at e2
    simp only at e2
    omega
  have hinj : ∀ i j, i < ps.length → j < ps.length → q i = q j → i = j := fun i j hi hj e => by
    have e2 : (q i).tsn = (q j).tsn := by rw [e]
    rw [hqt, hqt] at e2
    unfold M at e2
    omega
  have hmem : ∀ x, x ∈ b ++ [q n] ↔ x = other first free st ∨ ∃ j, j < ps.length ∧ j ∉ left' ∧ x = q j := fun x => by
    rw [List.mem_append, List.mem_singleton, hbm]
    constructor
    · rintro ((hx | ⟨j, hj, hjl, hx⟩) | hx)
      · exact .inl hx
      · exact .inr ⟨j, hj, fun hh => hjl ((hm j).1 hh).1, hx⟩
      · exact .inr ⟨n, hn, fun hh => ((hm n).1 hh).2 rfl, hx⟩
    · rintro (hx | ⟨j, hj, hjl, hx⟩)
      · exact .inl (.inl hx)
      · by_cases hjn : j = n
        · subst hjn; exact .inr hx
        · exact .inl (.inr ⟨j, hj, fun hh => hjl ((hm j).2 ⟨hh, hjn⟩), hx⟩)
  have hnb : q n ∉ b := fun hh => by
    rcases (hbm _).1 hh with e | ⟨j, hj, hjl, e⟩
    · exact hoq n hn e.symm
    · rw [hinj n j hn hj e] at hnl
      exact hjl hnl
  have hM : Msg (b ++ [q n]) (first + (0 : Nat)) ps.length q := by
    rw [← hq]
    refine bq_msg (by omega) hN fun x hx => ?_
    rw [hq] at hx ⊢
    rcases (hmem x).1 hx with e | ⟨j, hj, _, e⟩
    · right
      intro j hj e2
      rw [e] at e2
      unfold other M at e2
      simp only at e2
      omega
    · exact .inl ⟨j, hj, e⟩
  have ht : (q n).tx ≠ [] := by rw [← hq]; exact bq_tx hps hn
  have hr : 0 ≤ (q n).tsn ∧ (q n).tsn < M := by rw [hqt]; unfold M; omega
  have hgl := h.good.snoc hr ht (put_find hM hn hnb)
  constructor
  · intro hne
    obtain ⟨j, hjm⟩ := List.exists_mem_of_ne_nil _ hne
    have hjl := h.lt j ((hm j).1 hjm).1
    refine ⟨put_part hgl hM hn hnb ht ⟨j, hjl, fun hh => ?_⟩, hgl, hnd, fun j hj => h.lt j ((hm j).1 hj).1, by rw [hq]; exact hmem⟩
    rcases (hmem _).1 hh with e | ⟨i, hi, hil, e⟩
    · exact hoq j hjl e.symm
    · rw [hinj j i hjl hi e] at hjm
      exact hil hjm
  · intro he
    have ha : ∀ j, j < ps.length → q j ∈ b ++ [q n] := fun j hj => (hmem _).2 (.inr ⟨j, hj, by rw [he]; simp, rfl⟩)
    rw [put_whole hgl hM hn hnb ht ha]
    have hrg : Good (rest (b ++ [q n]) (places (b ++ [q n]) (first + (0 : Nat)) 0 ps.length)) := hgl.sub (rest_sub _ _)
    rw [all_one hrg fun y => by
      rw [hM.rest_iff hgl ha, hmem]
      constructor
      · rintro ⟨e | ⟨j, hj, _, e⟩, h2⟩
        · exact e
        · exact absurd e (h2 j hj)
      · intro e
        exact ⟨.inl e, fun j hj => e ▸ hoq j hj⟩]
    have hfl := bq_text first 0 free st 7 9 ps
    rw [hq] at hfl
    rw [hfl]
    have h0 : (first + ((0 : Nat) : Int) + ((0 : Nat) : Int)) % M = first := by unfold M at *; omega
    rw [hqt 0, h0, ← hq]
    rfl
theorem put_first {x : Fp} (h1 : x.be = true) (h2 : x.en = false) (h3 : x.tx ≠ []) : put [] x = ([x], Mg.zero, false) := by
  have hf : find [x] x.tsn = some 0 := by simp [find]
  rw [put_new h3 rfl]
  have : row ([] ++ [x]) x = none := by
    simp only [List.nil_append]
    rw [row]
    simp [back, fwd, hf, h1, h2, kin]
  rw [this]
  rfl
theorem Bk.start {first : Int} (hf : 0 ≤ first ∧ first < M) (free : Bool) (st : Int) (ps : List (List UInt8)) : put [] (other first free st) = ([other first free st], Mg.zero, false) ∧ Bk first free st ps (List.range ps.length) [other first free st] := by
  refine ⟨put_first rfl rfl (by simp [other]), ⟨fun x hx => ?_, by simp, fun x hx => ?_⟩, List.nodup_range, fun j hj => List.mem_range.1 hj, fun x => ?_⟩
  · rw [List.mem_singleton.1 hx]
    unfold other M at *
    simp only
    omega
  · rw [List.mem_singleton.1 hx]
    simp [other]
  · rw [List.mem_singleton]
    constructor
    · exact .inl
    · rintro (h | ⟨j, hj, hjl, _⟩)
      · exact h
      · exact absurd (List.mem_range.2 hj) hjl
end Fr
end Go.Proofs.Ytaopomedbbcgcaa
