/- Digests under a key, in plain Lean. -/
import Derived.Test.YtheilikelcgdmaaStr
import Derived.Test.YtheilikelcgdmaaShaF
namespace Go.Proofs.Ytheilikelcgdmaa
open Go.Proofs.Ytheilikelcgdmaa.Sha
namespace Hm
/-- A key of no more than 64 bytes. -/
def norm (k : List UInt8) : List UInt8 := if 64 < k.length then Sha.sum k else k
def kpad (k : List UInt8) (c : UInt8) : List UInt8 := (List.range 64).map fun i => k.getD i 0 ^^^ c
def inner (k s : List UInt8) : List UInt8 := Sha.sum (kpad (norm k) 54 ++ s)
def sum (k s : List UInt8) : List UInt8 := Sha.sum (kpad (norm k) 92 ++ inner k s)
theorem kpad_len (k : List UInt8) (c : UInt8) : (kpad k c).length = 64 := by simp [kpad]
theorem sum_len (k s : List UInt8) : (sum k s).length = 32 := rfl
theorem inner_len (k s : List UInt8) : (inner k s).length = 32 := rfl
theorem norm_len (k : List UInt8) : (norm k).length ≤ 64 := by
  unfold norm
  split
  · rw [Sha.sum_len]; omega
  · omega
end Hm
/-- What an iterator over a padded key hands on. -/
abbrev KB := { p : Nat × UInt8 // p.1 < 64 }
def kEnc (x : KB) : Array Value := #[.int .i64 (x.1.1 : Nat), bv x.1.2]
def kUp (k : List UInt8) : Nat → List KB
  | 0 => []
  | i + 1 => if h : i < 64 then kUp k i ++ [⟨(i, k.getD i 0), h⟩] else kUp k i
theorem kUp_next (k : List UInt8) {i : Nat} (h : i < 64) : kUp k (i + 1) = kUp k i ++ [⟨(i, k.getD i 0), h⟩] := by rw [kUp, dif_pos h]
theorem kUp_len (k : List UInt8) : ∀ i, i ≤ 64 → (kUp k i).length = i
  | 0, _ => rfl
  | i + 1, h => by rw [kUp_next k (by omega), List.length_append, kUp_len k i (by omega)]; rfl
def kFill (c : UInt8) (pre : List KB) : List Value := pre.foldl (fun cs x => cs.set x.1.1 (bv (x.1.2 ^^^ c))) (List.replicate 64 (bv 0))
theorem kFill_nil (c : UInt8) : kFill c [] = List.replicate 64 (bv 0) := rfl
theorem kFill_next (c : UInt8) (pre : List KB) (x : KB) : kFill c (pre ++ [x]) = (kFill c pre).set x.1.1 (bv (x.1.2 ^^^ c)) := by simp [kFill]
theorem kFill_len (c : UInt8) (pre : List KB) : (kFill c pre).length = 64 := by
  unfold kFill
  suffices ∀ (l : List Value), l.length = 64 → (pre.foldl (fun cs x => cs.set x.1.1 (bv (x.1.2 ^^^ c))) l).length = 64 from this _ (by simp)
  induction pre with
  | nil => exact fun l h => h
  | cons x pre ih => exact fun l h => ih _ (by simpa using h)
theorem kFill_up (c : UInt8) (k : List UInt8) : ∀ i, i ≤ 64 → kFill c (kUp k i) = fnv 64 fun j => if j < i then bv (k.getD j 0 ^^^ c) else bv 0
  | 0, _ => by
    rw [show kUp k 0 = [] from rfl, kFill_nil]
    apply List.ext_getElem?
    intro j
    by_cases hj : j < 64
    · rw [fnv_get hj, List.getElem?_replicate, if_pos hj, if_neg (by omega)]
    · rw [List.getElem?_eq_none (by simp; omega), List.getElem?_eq_none (by rw [fnv_len]; omega)]
  | i + 1, h => by
    rw [kUp_next k (by omega), kFill_next, kFill_up c k i (by omega), fnv_set]
    refine fnv_congr fun j hj => ?_
    by_cases e : j = i
    · subst e
      rw [if_pos rfl, if_pos (by omega)]
    · rw [if_neg e]
      by_cases hlt : j < i
      · rw [if_pos hlt, if_pos (by omega)]
      · rw [if_neg hlt, if_neg (by omega)]
theorem kFill_all (c : UInt8) (k : List UInt8) : kFill c (kUp k 64) = (Hm.kpad k c).map bv := by
  rw [kFill_up c k 64 (by omega), Hm.kpad, List.map_map]
  exact fnv_congr fun j hj => by rw [if_pos hj]; rfl
end Go.Proofs.Ytheilikelcgdmaa
