/- Words of 32 bits and bytes as values: what the operations make of them. Of whatever program. -/
import Derived.Test.YthbhjnmkbmmcnaaHg
namespace Go.Proofs.Ythbhjnmkbmmcnaa
open Go.RowKit Go.IntWalk
set_option linter.unusedVariables false
set_option linter.unusedSectionVars false

/-- A word, a byte, as a value. -/
abbrev wv (x : BitVec 32) : Value := .int .u32 (x.toNat : Int)
abbrev bv (c : UInt8) : Value := .int .u8 (c.toNat : Int)
theorem w_lt (x : BitVec 32) : x.toNat < 4294967296 := x.isLt
theorem b_lt (c : UInt8) : c.toNat < 256 := by have := c.toBitVec.isLt; simpa using this
theorem bvec (x : BitVec 32) : BitVec.ofInt 32 (x.toNat : Int) = x := by
  apply BitVec.eq_of_toNat_eq
  simp
theorem bvec8 (x : UInt8) : BitVec.ofInt 8 (x.toNat : Int) = x.toBitVec := by
  apply BitVec.eq_of_toNat_eq
  have := b_lt x
  simp
theorem wAdd {x y : BitVec 32} : Value.int .u32 (IntKind.u32.wrap ((x.toNat : Int) + (y.toNat : Int))) = wv (x + y) := by
  rw [IntKind.wrap_u32]
  show _ = Value.int .u32 (((x + y).toNat : Nat) : Int)
  rw [BitVec.toNat_add]
  simp
theorem wXor {x y : BitVec 32} : Value.int .u32 (IntKind.u32.wrap ((BitVec.ofInt IntKind.u32.bits (x.toNat : Int) ^^^ BitVec.ofInt IntKind.u32.bits (y.toNat : Int)).toNat : Int)) = wv (x ^^^ y) := by
  show Value.int .u32 (IntKind.u32.wrap ((BitVec.ofInt 32 (x.toNat : Int) ^^^ BitVec.ofInt 32 (y.toNat : Int)).toNat : Int)) = _
  rw [bvec, bvec, u32_in _ (by have := w_lt (x ^^^ y); omega)]
theorem wAnd {x y : BitVec 32} : Value.int .u32 (IntKind.u32.wrap ((BitVec.ofInt IntKind.u32.bits (x.toNat : Int) &&& BitVec.ofInt IntKind.u32.bits (y.toNat : Int)).toNat : Int)) = wv (x &&& y) := by
  show Value.int .u32 (IntKind.u32.wrap ((BitVec.ofInt 32 (x.toNat : Int) &&& BitVec.ofInt 32 (y.toNat : Int)).toNat : Int)) = _
  rw [bvec, bvec, u32_in _ (by have := w_lt (x &&& y); omega)]
theorem wOr {x y : BitVec 32} : Value.int .u32 (IntKind.u32.wrap ((BitVec.ofInt IntKind.u32.bits (x.toNat : Int) ||| BitVec.ofInt IntKind.u32.bits (y.toNat : Int)).toNat : Int)) = wv (x ||| y) := by
  show Value.int .u32 (IntKind.u32.wrap ((BitVec.ofInt 32 (x.toNat : Int) ||| BitVec.ofInt 32 (y.toNat : Int)).toNat : Int)) = _
  rw [bvec, bvec, u32_in _ (by have := w_lt (x ||| y); omega)]
theorem bXor {x y : UInt8} : Value.int .u8 (IntKind.u8.wrap ((BitVec.ofInt IntKind.u8.bits (x.toNat : Int) ^^^ BitVec.ofInt IntKind.u8.bits (y.toNat : Int)).toNat : Int)) = bv (x ^^^ y) := by
  show Value.int .u8 (IntKind.u8.wrap ((BitVec.ofInt 8 (x.toNat : Int) ^^^ BitVec.ofInt 8 (y.toNat : Int)).toNat : Int)) = _
  rw [bvec8, bvec8, u8_in _ (by have := (x.toBitVec ^^^ y.toBitVec).isLt; omega)]
  rfl
theorem bOr {x y : UInt8} : Value.int .u8 (IntKind.u8.wrap ((BitVec.ofInt IntKind.u8.bits (x.toNat : Int) ||| BitVec.ofInt IntKind.u8.bits (y.toNat : Int)).toNat : Int)) = bv (x ||| y) := by
  show Value.int .u8 (IntKind.u8.wrap ((BitVec.ofInt 8 (x.toNat : Int) ||| BitVec.ofInt 8 (y.toNat : Int)).toNat : Int)) = _
  rw [bvec8, bvec8, u8_in _ (by have := (x.toBitVec ||| y.toBitVec).isLt; omega)]
  rfl
theorem wOfB {c : UInt8} : Value.int .u32 (IntKind.u32.wrap (c.toNat : Int)) = wv (BitVec.ofNat 32 c.toNat) := by
  have := b_lt c
  rw [u32_in _ (by omega), wv, BitVec.toNat_ofNat, Nat.mod_eq_of_lt (by omega)]
theorem bOfW {x : BitVec 32} : Value.int .u8 (IntKind.u8.wrap (x.toNat : Int)) = bv (UInt8.ofNat x.toNat) := by
  rw [IntKind.wrap_u8]
  simp [bv]
theorem bOfN {x : Nat} : Value.int .u8 (IntKind.u8.wrap (x : Int)) = bv (UInt8.ofNat x) := by
  rw [IntKind.wrap_u8]
  simp [bv]
def natZ : Int → Option Nat
  | .ofNat n => some n
  | _ => none
theorem natZ_eq {q : Int} {n : Nat} (h : natZ q = some n) : q = n := by
  cases q with
  | ofNat m => simp [natZ] at h; subst h; rfl
  | negSucc m => simp [natZ] at h
section
variable {P : Program} {w0 : World} {D : Nat → Prop} {n : Nat} [Dfr] {τ : Tm} {H : List Item} {o : Oper}
theorem Yld.shlW {T u : Nat} {a c : Operand} {k' : IntKind} {x : BitVec 32} {q : Int} {m : Nat} (ho : o.op = .binOp .shl T a c u) (hx : evl τ a = some (wv x)) (hy : evl τ c = some (.int k' q)) (hq : natZ q = some m) (hm : Nat.ble m 32 = true) : Yld P w0 D n o τ H (wv (x <<< m)) := by
  obtain rfl := natZ_eq hq
  refine Yld.shl m ho hx hy hm ?_
  rw [IntKind.wrap_u32, wv, BitVec.toNat_shiftLeft, Nat.shiftLeft_eq]
  simp
theorem Yld.shrW {T u : Nat} {a c : Operand} {k' : IntKind} {x : BitVec 32} {q : Int} {m : Nat} (ho : o.op = .binOp .shr T a c u) (hx : evl τ a = some (wv x)) (hy : evl τ c = some (.int k' q)) (hq : natZ q = some m) (hm : Nat.ble m 32 = true) : Yld P w0 D n o τ H (wv (x >>> m)) := by
  obtain rfl := natZ_eq hq
  refine Yld.shr m ho hx hy hm ?_
  rw [wv, BitVec.toNat_ushiftRight, Nat.shiftRight_eq_div_pow]
  simp
theorem Yld.notW {T : Nat} {a : Operand} {x : BitVec 32} (ho : o.op = .unOp .xor T a) (hx : evl τ a = some (wv x)) : Yld P w0 D n o τ H (wv (~~~x)) := ⟨fun a w h hw => by
  have e : BitVec.ofInt 32 (4294967295 : Int) ^^^ BitVec.ofInt 32 (x.toNat : Int) = ~~~x := by
    rw [bvec]
    have : BitVec.ofInt 32 (4294967295 : Int) = BitVec.allOnes 32 := by decide
    rw [this, BitVec.allOnes_xor]
  have e2 : (IntKind.u32.wrap ((~~~x).toNat : Int)) = ((~~~x).toNat : Int) := u32_in _ (by have := w_lt (~~~x); omega)
  have e3 : (Op.unary .xor (.int .u32 (x.toNat : Int))).run P w = .ok (wv (~~~x)) w := by
    show Result.ok (Value.int .u32 (IntKind.u32.wrap ((BitVec.ofInt 32 (4294967295 : Int) ^^^ BitVec.ofInt 32 (x.toNat : Int)).toNat : Int))) w = _
    rw [e, e2]
  simp only [execOp, ho, h.ev hx]
  simp [e3]⟩
/-- Bytes that are cut out of a text, and texts one behind the other. -/
theorem Yld.concat {T u : Nat} {a c : Operand} {s t : ByteArray} (ho : o.op = .binOp .add T a c u) (hx : evl τ a = some (.string s)) (hy : evl τ c = some (.string t)) (hs : s.size + t.size ≤ 9223372036854775807) : Yld P w0 D n o τ H (.string (s ++ t)) :=
  ⟨fun a w h hw => by
    have := run_string_add_sum (P := P) (w := w) s t hs
    simp [execOp, ho, h.ev hx, h.ev hy, eqGuard, binOp, this]⟩
end
/-! ### Rows that are written as functions of the place -/
def fnv (n : Nat) (f : Nat → Value) : List Value := (List.range n).map f
theorem fnv_len (n : Nat) (f : Nat → Value) : (fnv n f).length = n := by simp [fnv]
theorem fnv_get {n : Nat} {f : Nat → Value} {j : Nat} (hj : j < n) : (fnv n f)[j]? = some (f j) := by simp [fnv, List.getElem?_range hj]
theorem fnv_set {n : Nat} {f : Nat → Value} {j : Nat} {v : Value} : (fnv n f).set j v = fnv n fun i => if i = j then v else f i := by
  apply List.ext_getElem?
  intro i
  by_cases hi : i < n
  · rw [List.getElem?_set]
    by_cases e : j = i
    · subst e
      rw [if_pos rfl, if_pos (by rw [fnv_len]; exact hi), fnv_get hi, if_pos rfl]
    · rw [if_neg e, fnv_get hi, fnv_get hi, if_neg (fun h => e h.symm)]
  · rw [List.getElem?_eq_none (by simp [fnv]; omega), List.getElem?_eq_none (by rw [fnv_len]; omega)]
theorem fnv_congr {n : Nat} {f g : Nat → Value} (h : ∀ i, i < n → f i = g i) : fnv n f = fnv n g := List.map_congr_left fun i hi => h i (List.mem_range.1 hi)
end Go.Proofs.Ythbhjnmkbmmcnaa
