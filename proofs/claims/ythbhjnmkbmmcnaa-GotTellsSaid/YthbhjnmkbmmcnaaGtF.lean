/- What came: plain functions and facts. -/
import Derived.Test.YthbhjnmkbmmcnaaSerF
namespace Go.Proofs.Ythbhjnmkbmmcnaa
set_option linter.unusedVariables false
namespace Gt
/-- A number of 32 bits. -/
abbrev M : Int := 4294967296
/-- The number so far above another one, and how far a number is above another one. -/
def up (c : Int) (d : Nat) : Int := (c + (d : Int)) % M
def ds (c x : Int) : Nat := ((x - c) % M).toNat
theorem ds_eq (c x : Int) : (x - c) % M = (ds c x : Nat) := by unfold ds M; omega
theorem ds_lt (c x : Int) : ds c x < 4294967296 := by unfold ds M; omega
theorem up_in (c : Int) (d : Nat) : 0 ≤ up c d ∧ up c d < M := by unfold up M; omega
theorem up_ds {c x : Int} (hx : 0 ≤ x ∧ x < M) : up c (ds c x) = x := by unfold up ds M at *; omega
theorem ds_up {c : Int} {d : Nat} (hd : d < 4294967296) : ds c (up c d) = d := by unfold up ds M; omega
theorem up_inj {c : Int} {d e : Nat} (hd : d < 4294967296) (he : e < 4294967296) (h : up c d = up c e) : d = e := by unfold up M at h; omega
theorem up_up (c : Int) (a b : Nat) : up (up c a) b = up c (a + b) := by unfold up M; omega
/-- The distances of what is above. -/
structure Ok (D : List Nat) : Prop where
  up : D.Pairwise (· < ·)
  lo : ∀ d ∈ D, 2 ≤ d
  hi : ∀ d ∈ D, d ≤ 4000
theorem Ok.nil : Ok [] := ⟨.nil, by simp, by simp⟩
def has (D : List Nat) (d : Nat) : Bool := decide (d = 0) || decide (2147483648 < d) || D.contains d
theorem far_iff (c x : Int) : (c - x) % M < 2147483648 ↔ ds c x = 0 ∨ 2147483648 < ds c x := by unfold ds M; omega
/-- The numbers above. -/
def ab (c : Int) (D : List Nat) : List Int := D.map (up c)
theorem ab_len (c : Int) (D : List Nat) : (ab c D).length = D.length := by simp [ab]
theorem ab_get {c : Int} {D : List Nat} {i d : Nat} (h : D[i]? = some d) : (ab c D)[i]? = some (up c d) := by simp [ab, h]
theorem ab_mem {c : Int} {D : List Nat} {x : Int} (hx : 0 ≤ x ∧ x < M) (hD : ∀ d ∈ D, d < 4294967296) : x ∈ ab c D ↔ ds c x ∈ D := by
  unfold ab
  rw [List.mem_map]
  constructor
  · rintro ⟨d, hd, rfl⟩
    rw [ds_up (hD d hd)]; exact hd
  · intro h
    exact ⟨_, h, up_ds hx⟩
theorem ab_ru (c : Int) (D : List Nat) : ∀ x ∈ ab c D, 0 ≤ x ∧ x ≤ 4294967295 := fun x hx => by
  obtain ⟨d, _, rfl⟩ := List.mem_map.1 hx
  have := up_in c d
  unfold M at this
  omega
/-- Where a distance stands, or would. -/
structure At (D : List Nat) (d p : Nat) : Prop where
  le : p ≤ D.length
  lo : ∀ i x, i < p → D[i]? = some x → x < d
  hi : ∀ i x, p ≤ i → D[i]? = some x → d ≤ x
/-- A distance put in. -/
def insD (d : Nat) (D : List Nat) : List Nat := D.filter (· < d) ++ d :: D.filter (d < ·)
theorem At.cut {D : List Nat} {d p : Nat} (h : At D d p) (hn : d ∉ D) : D.take p ++ d :: D.drop p = insD d D := by
  unfold insD
  have h1 : ∀ x ∈ D.take p, x < d := fun x hx => by
    obtain ⟨i, hi, rfl⟩ := List.getElem_of_mem hx
    rw [List.length_take] at hi
    rw [List.getElem_take]
    exact h.lo i _ (by omega) (List.getElem?_eq_getElem (by omega))
  have h2 : ∀ x ∈ D.drop p, d < x := fun x hx => by
    have hxD := List.mem_of_mem_drop hx
    obtain ⟨i, hi, rfl⟩ := List.getElem_of_mem hx
    rw [List.length_drop] at hi
    rw [List.getElem_drop] at hxD ⊢
    have := h.hi (p + i) _ (by omega) (List.getElem?_eq_getElem (by omega))
    have hne : D[p + i] ≠ d := fun e => hn (e ▸ hxD)
    omega
  have e1 : D.filter (· < d) = D.take p := by
    conv => lhs; rw [← List.take_append_drop p D]
    rw [List.filter_append, List.filter_eq_self.2 (fun x hx => by simpa using h1 x hx), List.filter_eq_nil_iff.2 (fun x hx => by have := h2 x hx; simp; omega), List.append_nil]
  have e2 : D.filter (d < ·) = D.drop p := by
    conv => lhs; rw [← List.take_append_drop p D]
    rw [List.filter_append, List.filter_eq_nil_iff.2 (fun x hx => by have := h1 x hx; simp; omega), List.nil_append, List.filter_eq_self.2 (fun x hx => by simpa using h2 x hx)]
  rw [e1, e2]
theorem mem_insD {d x : Nat} {D : List Nat} : x ∈ insD d D ↔ x = d ∨ x ∈ D := by
  unfold insD
  simp only [List.mem_append, List.mem_filter, List.mem_cons, decide_eq_true_eq]
  constructor
  · rintro (h | h | h)
    · exact .inr h.1
    · exact .inl h
    · exact .inr h.1
  · rintro (h | h)
    · exact .inr (.inl h)
    · rcases Nat.lt_trichotomy x d with h2 | h2 | h2
      · exact .inl ⟨h, h2⟩
      · exact .inr (.inl h2)
      · exact .inr (.inr ⟨h, h2⟩)
theorem insD_up {d : Nat} {D : List Nat} (h : D.Pairwise (· < ·)) : (insD d D).Pairwise (· < ·) := by
  unfold insD
  rw [List.pairwise_append, List.pairwise_cons]
  refine ⟨h.filter _, ⟨fun x hx => by simpa using (List.mem_filter.1 hx).2, h.filter _⟩, fun a ha b hb => ?_⟩
  have h1 := (List.mem_filter.1 ha).2
  simp only [decide_eq_true_eq] at h1
  rcases List.mem_cons.1 hb with rfl | hb
  · exact h1
  · have h2 := (List.mem_filter.1 hb).2
    simp only [decide_eq_true_eq] at h2
    omega
theorem insD_len {d : Nat} {D : List Nat} (h : D.Pairwise (· < ·)) (hn : d ∉ D) : (insD d D).length = D.length + 1 := by
  have : ∀ D : List Nat, d ∉ D → (D.filter (· < d)).length + (D.filter (d < ·)).length = D.length := fun D => by
    induction D with
    | nil => intro; rfl
    | cons x D ih =>
      intro hn
      have := ih (fun hm => hn (List.mem_cons_of_mem _ hm))
      have hx : x ≠ d := fun e => hn (by simp [e])
      rw [List.filter_cons, List.filter_cons]
      by_cases h1 : x < d
      · rw [if_pos (by simpa using h1), if_neg (by simp; omega), List.length_cons, List.length_cons]; omega
      · rw [if_neg (by simpa using h1), if_pos (by simp; omega), List.length_cons, List.length_cons]; omega
  have := this D hn
  unfold insD
  rw [List.length_append, List.length_cons]
  omega
/-- How many go up one by one, from the next one on. -/
def run : Nat → List Nat → Nat
  | _, [] => 0
  | j, e :: r => if e = j + 1 then run (j + 1) r + 1 else 0
theorem run_spec : ∀ (j : Nat) (E : List Nat), E.Pairwise (· < ·) → (∀ e ∈ E, j < e) → run j E ≤ E.length ∧ (∀ i, i < run j E → E[i]? = some (j + i + 1)) ∧ ∀ e ∈ E.drop (run j E), j + run j E + 1 < e
  | _, [], _, _ => by simp [run]
  | j, e :: r, hp, hj => by
    rw [List.pairwise_cons] at hp
    unfold run
    by_cases he : e = j + 1
    · rw [if_pos he]
      obtain ⟨h1, h2, h3⟩ := run_spec (j + 1) r hp.2 fun x hx => by have := hp.1 x hx; omega
      refine ⟨by simpa using h1, fun i hi => ?_, fun x hx => ?_⟩
      · cases i with
        | zero => simp [he]
        | succ i =>
          rw [List.getElem?_cons_succ, h2 i (by omega)]
          congr 1
          omega
      · rw [List.drop_succ_cons] at hx
        have := h3 x hx
        omega
    · rw [if_neg he]
      refine ⟨by simp, fun i hi => by omega, fun x hx => ?_⟩
      rw [List.drop_zero] at hx
      have h0 := hj e (by simp)
      rcases List.mem_cons.1 hx with rfl | hx
      · omega
      · have := hp.1 x hx
        omega
section
variable {E : List Nat}
theorem run_mem (hp : E.Pairwise (· < ·)) (h0 : ∀ e ∈ E, 0 < e) {e : Nat} : e ∈ E ↔ (0 < e ∧ e ≤ run 0 E) ∨ e ∈ E.drop (run 0 E) := by
  obtain ⟨h1, h2, h3⟩ := run_spec 0 E hp h0
  constructor
  · intro he
    rw [← List.take_append_drop (run 0 E) E] at he
    rcases List.mem_append.1 he with he | he
    · left
      obtain ⟨i, hi, rfl⟩ := List.getElem_of_mem he
      rw [List.length_take] at hi
      have := h2 i (by omega)
      rw [List.getElem?_eq_getElem (by omega)] at this
      have e2 : E[i]'(by omega) = 0 + i + 1 := by injection this
      rw [List.getElem_take, e2]
      omega
    · exact .inr he
  · rintro (⟨ha, hb⟩ | he)
    · have := h2 (e - 1) (by omega)
      rw [show 0 + (e - 1) + 1 = e by omega] at this
      exact List.mem_of_getElem? this
    · exact List.mem_of_mem_drop he
theorem run_next (hp : E.Pairwise (· < ·)) (h0 : ∀ e ∈ E, 0 < e) {j : Nat} (hj : j ≤ run 0 E) : j + 1 ∈ E ↔ j < run 0 E := by
  obtain ⟨h1, h2, h3⟩ := run_spec 0 E hp h0
  rw [run_mem hp h0]
  constructor
  · rintro (h | h)
    · omega
    · have := h3 _ h
      omega
  · intro h
    exact .inl ⟨by omega, by omega⟩
theorem run_get (hp : E.Pairwise (· < ·)) (h0 : ∀ e ∈ E, 0 < e) {j e : Nat} (hj : j ≤ run 0 E) (he : E[j]? = some e) : e = j + 1 ↔ j < run 0 E := by
  obtain ⟨h1, h2, h3⟩ := run_spec 0 E hp h0
  constructor
  · intro h
    rcases Nat.lt_or_ge j (run 0 E) with h4 | h4
    · exact h4
    · obtain rfl : j = run 0 E := by omega
      have := h3 e (List.mem_of_getElem? (i := 0) (by rw [List.getElem?_drop]; exact he))
      omega
  · intro h
    have := h2 j h
    rw [he] at this
    have := Option.some.inj this
    omega
end
/-- What is behind the numbers that came one by one. -/
def trim (E : List Nat) : List Nat := (E.drop (run 0 E)).map (· - run 0 E)
theorem trim_mem {E : List Nat} (hp : E.Pairwise (· < ·)) (h0 : ∀ e ∈ E, 0 < e) {d : Nat} : d ∈ trim E ↔ 1 < d ∧ run 0 E + d ∈ E := by
  obtain ⟨h1, h2, h3⟩ := run_spec 0 E hp h0
  unfold trim
  rw [List.mem_map]
  constructor
  · rintro ⟨e, he, rfl⟩
    have := h3 e he
    exact ⟨by omega, by rw [show run 0 E + (e - run 0 E) = e by omega]; exact List.mem_of_mem_drop he⟩
  · rintro ⟨hd, hm⟩
    rcases (run_mem hp h0).1 hm with h | h
    · omega
    · exact ⟨_, h, by omega⟩
theorem trim_ok {E : List Nat} (hp : E.Pairwise (· < ·)) (h0 : ∀ e ∈ E, 0 < e) (h4 : ∀ e ∈ E, e ≤ 4000) : Ok (trim E) := by
  obtain ⟨h1, h2, h3⟩ := run_spec 0 E hp h0
  refine ⟨?_, fun d hd => ?_, fun d hd => ?_⟩
  · unfold trim
    rw [List.pairwise_map]
    have hpd : (E.drop (run 0 E)).Pairwise (· < ·) := hp.sublist (List.drop_sublist _ _)
    refine hpd.imp_of_mem ?_
    intro a b ha hb hab
    have := h3 a ha
    omega
  · have := ((trim_mem hp h0).1 hd).1; omega
  · have := h4 _ ((trim_mem hp h0).1 hd).2; omega
theorem trim_ab (c : Int) {E : List Nat} (hp : E.Pairwise (· < ·)) (h0 : ∀ e ∈ E, 0 < e) : ab (up c (run 0 E)) (trim E) = (ab c E).drop (run 0 E) := by
  obtain ⟨h1, h2, h3⟩ := run_spec 0 E hp h0
  unfold ab trim
  rw [List.map_map, ← List.map_drop]
  refine List.map_congr_left fun e he => ?_
  have := h3 e he
  show up (up c (run 0 E)) (e - run 0 E) = up c e
  rw [up_up]
  congr 1
  omega
theorem trim_len {E : List Nat} : (trim E).length = E.length - run 0 E := by simp [trim]
/-- Rows that go up and have the same members are the same. -/
theorem up_eq : ∀ {a b : List Nat}, a.Pairwise (· < ·) → b.Pairwise (· < ·) → (∀ z, z ∈ a ↔ z ∈ b) → a = b
  | [], [], _, _, _ => rfl
  | [], y :: b, _, _, h => absurd ((h y).2 (by simp)) (by simp)
  | x :: a, [], _, _, h => absurd ((h x).1 (by simp)) (by simp)
  | x :: a, y :: b, ha, hb, h => by
    rw [List.pairwise_cons] at ha hb
    have hxy : x = y := by
      rcases List.mem_cons.1 ((h x).1 (by simp)) with h1 | h1
      · exact h1
      · rcases List.mem_cons.1 ((h y).2 (by simp)) with h2 | h2
        · exact h2.symm
        · have := hb.1 x h1
          have := ha.1 y h2
          omega
    subst hxy
    rw [up_eq ha.2 hb.2 fun z => ⟨fun hz => by
        rcases List.mem_cons.1 ((h z).1 (List.mem_cons_of_mem _ hz)) with h1 | h1
        · have := ha.1 z hz; omega
        · exact h1, fun hz => by
        rcases List.mem_cons.1 ((h z).2 (List.mem_cons_of_mem _ hz)) with h1 | h1
        · have := hb.1 z hz; omega
        · exact h1⟩]
/-- Gone through from the first distance on. -/
def seen (F : List Nat) (t : Nat) : List Nat := (List.range t).filter (fun d => decide (1 < d) && F.contains d)
theorem seen_next (F : List Nat) (t : Nat) (ht : 1 < t) : seen F (t + 1) = if t ∈ F then seen F t ++ [t] else seen F t := by
  unfold seen
  rw [List.range_succ, List.filter_append]
  by_cases h : t ∈ F
  · rw [if_pos h]; simp [h, ht]
  · rw [if_neg h]; simp [h]
theorem seen_two (F : List Nat) : seen F 2 = [] := by simp [seen, List.range_succ]
theorem seen_all {F : List Nat} (h : Ok F) : seen F 4001 = F := by
  refine up_eq (List.pairwise_lt_range.filter _) h.up fun z => ?_
  unfold seen
  rw [List.mem_filter]
  constructor
  · rintro ⟨_, h2⟩
    simp at h2
    exact h2.2
  · intro hz
    have := h.lo z hz
    have := h.hi z hz
    exact ⟨List.mem_range.2 (by omega), by simp [hz]; omega⟩
theorem seen_len (F : List Nat) (t : Nat) : (seen F t).length ≤ t := by
  have := List.length_filter_le (fun d => decide (1 < d) && F.contains d) (List.range t)
  rw [List.length_range] at this
  exact this
/-- What came. -/
structure G where
  c : Int
  D : List Nat
  du : List Int
/-- G1 -/
def take (g : G) (n : Int) : G × Bool :=
  if has g.D (ds g.c n) = true then (⟨g.c, g.D, if g.du.length < 100 then g.du ++ [n] else g.du⟩, false)
  else if 4000 < ds g.c n then (g, false)
  else (⟨up g.c (run 0 (insD (ds g.c n) g.D)), trim (insD (ds g.c n) g.D), g.du⟩, true)
theorem not_has {D : List Nat} {d : Nat} (h : has D d = false) : 0 < d ∧ d ≤ 2147483648 ∧ d ∉ D := by
  unfold has at h
  simp only [Bool.or_eq_false_iff, decide_eq_false_iff_not] at h
  refine ⟨by omega, by omega, by simpa using h.2⟩
structure G.Ok (g : G) : Prop where
  c : 0 ≤ g.c ∧ g.c < M
  D : Gt.Ok g.D
  du : g.du.length ≤ 100
theorem ins_facts {D : List Nat} {d : Nat} (h : Ok D) (hn : has D d = false) (h4 : d ≤ 4000) : (insD d D).Pairwise (· < ·) ∧ (∀ e ∈ insD d D, 0 < e) ∧ (∀ e ∈ insD d D, e ≤ 4000) ∧ (insD d D).length = D.length + 1 := by
  obtain ⟨h1, h2, h3⟩ := not_has hn
  refine ⟨insD_up h.up, fun e he => ?_, fun e he => ?_, insD_len h.up h3⟩
  · rcases mem_insD.1 he with rfl | he
    · exact h1
    · have := h.lo e he; omega
  · rcases mem_insD.1 he with rfl | he
    · exact h4
    · exact h.hi e he
theorem take_ok {g : G} (h : g.Ok) (n : Int) : (take g n).1.Ok := by
  unfold take
  split
  · refine ⟨h.c, h.D, ?_⟩
    have := h.du
    show (if g.du.length < 100 then g.du ++ [n] else g.du).length ≤ 100
    split
    · rw [List.length_append]; simp; omega
    · exact this
  · rename_i hh
    split
    · exact h
    · rename_i h4
      obtain ⟨a1, a2, a3, _⟩ := ins_facts h.D (by simpa using hh) (by omega)
      exact ⟨up_in _ _, trim_ok a1 a2 a3, h.du⟩
theorem take_len {g : G} (h : g.Ok) (n : Int) : (take g n).1.D.length ≤ g.D.length + 1 := by
  unfold take
  split
  · exact Nat.le_succ _
  · rename_i hh
    split
    · exact Nat.le_succ _
    · obtain ⟨_, _, _, a4⟩ := ins_facts h.D (by simpa using hh) (by omega)
      show (trim _).length ≤ _
      rw [trim_len, a4]
      omega
end Gt
end Go.Proofs.Ythbhjnmkbmmcnaa
