/- What 'Ack' of the package sent makes of pieces, in plain Lean. -/
import Derived.Test.YthpllkegmjcfaaaSntF
namespace Go.Proofs.Ythpllkegmjcfaaa
open Go.RowKit
set_option linter.unusedVariables false

def doneF (now : Int) (r : Res) (p : Pc) : Res := if p.state = 2 then { r with done := r.done ++ [p.tsn] } else tellF now { r with done := r.done ++ [p.tsn] } p
def stepF (b : Bool) (p : Pc) : Pc := if b = true ∧ p.state ≠ 2 then { p with state := 2 } else if b = false ∧ p.state = 2 then { p with state := 1, misses := 0 } else p
def newF (now : Int) (r : Res) (bp : Bool × Pc) : Res := if bp.1 = true ∧ bp.2.state ≠ 2 then tellF now r bp.2 else r
def missF (p : Pc) : Pc := if p.state = 1 then (if w64 (p.misses + 1) = 3 then { p with state := 3, misses := 0 } else { p with misses := w64 (p.misses + 1) }) else p
def lostF (p : Pc) : List Int := if p.state = 1 ∧ w64 (p.misses + 1) = 3 then [p.tsn] else []
def res0 (out : Int) (moved : Bool) : Res := ⟨0, out, moved, false, [], [], []⟩
def ack1 (ps : List Pc) (up : Nat) (now : Int) : Res := (ps.take up).foldl (doneF now) (res0 (underF (-1) ps) (decide (0 < up)))
def marks' (ps : List Pc) (up : Nat) (gs : List (Nat × Nat)) : List Bool := marksF gs (ps.length - up)
def ack2 (ps : List Pc) (up : Nat) (gs : List (Nat × Nat)) (now : Int) : Res := ((marks' ps up gs).zip (ps.drop up)).foldl (newF now) (ack1 ps up now)
def step2 (ps : List Pc) (up : Nat) (gs : List (Nat × Nat)) : List Pc := List.zipWith stepF (marks' ps up gs) (ps.drop up)
def step3 (ps : List Pc) (up : Nat) (gs : List (Nat × Nat)) (last : Nat) : List Pc := ((step2 ps up gs).map missF).take last ++ (step2 ps up gs).drop last
def ack3 (ps : List Pc) (up : Nat) (gs : List (Nat × Nat)) (now : Int) (last : Nat) : Res := { ack2 ps up gs now with fast := ((step2 ps up gs).take last).flatMap lostF }

theorem marks_len (ps : List Pc) (up : Nat) (gs : List (Nat × Nat)) : (marks' ps up gs).length = ps.length - up := by simp [marks', marksF]
theorem step2_len (ps : List Pc) (up : Nat) (gs : List (Nat × Nat)) : (step2 ps up gs).length = ps.length - up := by simp [step2, marks_len]
theorem step3_len (ps : List Pc) (up : Nat) (gs : List (Nat × Nat)) (last : Nat) (h : last ≤ ps.length - up) : (step3 ps up gs last).length = ps.length - up := by
  simp [step3, step2_len]; omega

theorem mid_set {α : Type} {a b : List α} {i : Nat} {x : α} (hl : a.length = b.length) (hx : a[i]? = some x) : (a.take i ++ b.drop i).set i x = a.take (i + 1) ++ b.drop (i + 1) := by
  obtain ⟨hi, rfl⟩ := List.getElem?_eq_some_iff.1 hx
  have h1 : (a.take i).length = i := by rw [List.length_take]; omega
  rw [List.set_append_right _ _ (by omega), h1, Nat.sub_self, List.drop_eq_getElem_cons (l := b) (i := i) (by omega), List.set_cons_zero, take_succ hx, List.append_assoc]
  rfl
theorem mid_get {α : Type} {a b : List α} {i : Nat} {y : α} (hl : a.length = b.length) (hy : b[i]? = some y) : (a.take i ++ b.drop i)[i]? = some y := by
  obtain ⟨hi, rfl⟩ := List.getElem?_eq_some_iff.1 hy
  have h1 : (a.take i).length = i := by rw [List.length_take]; omega
  rw [List.getElem?_append_right (by omega), h1, Nat.sub_self, List.getElem?_drop, Nat.add_zero, List.getElem?_eq_getElem hi]
/-- One cell of one element is another one. -/
theorem flat_cell {α : Type} {enc : α → List Value} {k : Nat} (hk : ∀ x, (enc x).length = k) {xs : List α} {i : Nat} {x x' : α} (j : Nat) (v : Value) (hx : xs[i]? = some x) (hj : j < k) (he : enc x' = (enc x).set j v) : (flat enc xs).set (i * k + j) v = flat enc (xs.set i x') := by
  apply List.ext_getElem?
  intro q
  obtain ⟨hi, rfl⟩ := List.getElem?_eq_some_iff.1 hx
  have hlen : (flat enc xs).length = xs.length * k := flat_len hk xs
  have hlen' : (flat enc (xs.set i x')).length = xs.length * k := by rw [flat_len hk]; simp
  by_cases hq : q < xs.length * k
  · have hk0 : 0 < k := by omega
    have hqi : q / k < xs.length := Nat.div_lt_of_lt_mul (by rwa [Nat.mul_comm])
    have hqm : q % k < k := Nat.mod_lt _ hk0
    have hqe : q = q / k * k + q % k := by rw [Nat.mul_comm]; exact (Nat.div_add_mod q k).symm
    have e1 : (flat enc xs)[q]? = (enc xs[q / k])[q % k]? := by
      conv => lhs; rw [hqe]
      exact flat_get hk xs _ hqi _ hqm
    have e2 : (flat enc (xs.set i x'))[q]? = (enc ((xs.set i x')[q / k]'(by simpa using hqi)))[q % k]? := by
      conv => lhs; rw [hqe]
      exact flat_get hk _ _ (by simpa using hqi) _ hqm
    rw [List.getElem?_set, e1, e2]
    by_cases hqi' : i = q / k
    · subst hqi'
      have : (xs.set (q / k) x')[q / k]'(by simpa using hqi) = x' := by simp
      rw [this, he, List.getElem?_set]
      by_cases hqj : j = q % k
      · have : q / k * k + j = q := by omega
        rw [if_pos this, if_pos hqj, if_pos (by rw [hlen]; omega), if_pos (by rw [hk]; exact hj)]
      · have : ¬ (q / k * k + j = q) := by omega
        rw [if_neg this, if_neg hqj]
    · have hne : ¬ (i * k + j = q) := fun e => by
        apply hqi'
        rw [← e, Nat.mul_comm, Nat.mul_add_div hk0, Nat.div_eq_of_lt hj, Nat.add_zero]
      rw [if_neg hne]
      have : (xs.set i x')[q / k]'(by simpa using hqi) = xs[q / k] := by simp [hqi']
      rw [this]
  · rw [List.getElem?_eq_none (by rw [List.length_set]; omega), List.getElem?_eq_none (by omega)]

theorem done_take {ps : List Pc} {i : Nat} {p : Pc} (now : Int) (r : Res) (h : ps[i]? = some p) : (ps.take (i + 1)).foldl (doneF now) r = doneF now ((ps.take i).foldl (doneF now) r) p := by
  rw [take_succ h, List.foldl_append]; rfl
theorem new_take {l : List (Bool × Pc)} {i : Nat} {p : Bool × Pc} (now : Int) (r : Res) (h : l[i]? = some p) : (l.take (i + 1)).foldl (newF now) r = newF now ((l.take i).foldl (newF now) r) p := by
  rw [take_succ h, List.foldl_append]; rfl
/-- What is so of a result, whatever was noted. -/
def ResB (n : Nat) (r : Res) : Prop := 0 ≤ r.bytes ∧ r.bytes ≤ 1500 * n ∧ r.took.length ≤ n
theorem ResB.tell {n : Nat} {r : Res} {p : Pc} (now : Int) (h : ResB n r) (h0 : 1 ≤ p.size) (h1 : p.size ≤ 1500) : ResB (n + 1) (tellF now r p) := by
  obtain ⟨a, b, c⟩ := h
  refine ⟨by simp only [tellF]; omega, by simp only [tellF]; omega, ?_⟩
  simp only [tellF]
  split
  · simp; omega
  · omega
theorem ResB.up {n m : Nat} {r : Res} (h : ResB n r) (hm : n ≤ m) : ResB m r := ⟨h.1, by have := h.2.1; omega, by have := h.2.2; omega⟩
theorem ResB.done {n : Nat} {r : Res} {p : Pc} (now : Int) (h : ResB n r) (h0 : 1 ≤ p.size) (h1 : p.size ≤ 1500) : ResB (n + 1) (doneF now r p) := by
  unfold doneF
  split
  · exact ResB.up (n := n) ⟨h.1, h.2.1, h.2.2⟩ (by omega)
  · exact ResB.tell (n := n) now ⟨h.1, h.2.1, h.2.2⟩ h0 h1
theorem ResB.new {n : Nat} {r : Res} {bp : Bool × Pc} (now : Int) (h : ResB n r) (h0 : 1 ≤ bp.2.size) (h1 : bp.2.size ≤ 1500) : ResB (n + 1) (newF now r bp) := by
  unfold newF
  split
  · exact h.tell now h0 h1
  · exact h.up (by omega)
theorem done_len (now : Int) (r : Res) (p : Pc) : (doneF now r p).done = r.done ++ [p.tsn] := by unfold doneF; split <;> rfl
theorem new_done (now : Int) (r : Res) (bp : Bool × Pc) : (newF now r bp).done = r.done := by unfold newF; split <;> rfl
theorem done_same (now : Int) (r : Res) (p : Pc) : (doneF now r p).fast = r.fast ∧ (doneF now r p).out = r.out ∧ (doneF now r p).moved = r.moved := by unfold doneF; split <;> exact ⟨rfl, rfl, rfl⟩
theorem new_same (now : Int) (r : Res) (bp : Bool × Pc) : (newF now r bp).fast = r.fast ∧ (newF now r bp).out = r.out ∧ (newF now r bp).moved = r.moved := by unfold newF; split <;> exact ⟨rfl, rfl, rfl⟩
end Go.Proofs.Ythpllkegmjcfaaa
