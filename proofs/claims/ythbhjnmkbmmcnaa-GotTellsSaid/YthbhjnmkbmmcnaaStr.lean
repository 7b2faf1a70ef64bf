/- Texts as lists of bytes: cutting, joining, turning to bytes and back, over symbolic states. Of whatever program. -/
import Derived.Test.YthbhjnmkbmmcnaaWrd
import Derived.Test.YthbhjnmkbmmcnaaGo
import Derived.Laws.DeepStrings4
import Derived.Laws.IdiomStrings
namespace Go.Proofs.Ythbhjnmkbmmcnaa
open Go.RowKit Go.IntWalk
set_option linter.unusedVariables false
set_option linter.unusedSectionVars false

/-- A list of bytes as a text, and back. -/
def bs (l : List UInt8) : ByteArray := ⟨l.toArray⟩
theorem bs_eta (s : ByteArray) : bs s.data.toList = s := by cases s; rfl
theorem bs_list (l : List UInt8) : (bs l).data.toList = l := rfl
theorem bs_toList (l : List UInt8) : (bs l).toList = l := by rw [ByteArray.toList_eq]; rfl
theorem bs_size (l : List UInt8) : (bs l).size = l.length := rfl
theorem bs_append (a b : List UInt8) : bs a ++ bs b = bs (a ++ b) := ByteArray.mk_append_mk a b
theorem bs_inj {a b : List UInt8} (h : bs a = bs b) : a = b := by
  have := congrArg (fun s : ByteArray => s.data.toList) h
  exact this
theorem bs_extract (l : List UInt8) (i j : Nat) : (bs l).extract i j = bs ((l.take j).drop i) := by
  apply ByteArray.ext
  rw [ByteArray.data_extract]
  apply Array.toList_inj.1
  simp [bs, List.extract_eq_take_drop, List.drop_take]
theorem bs_get (l : List UInt8) (k : Nat) : (bs l)[k]? = l[k]? := by
  by_cases h : k < l.length
  · rw [ByteArray.getElem?_lt' _ _ h, List.getElem?_eq_getElem h]
    rfl
  · rw [ByteArray.getElem?_ge' _ _ h, List.getElem?_eq_none (by omega)]
theorem bs_nil : bs [] = ByteArray.empty := rfl
/-- The cells of bytes. -/
def bc (c : UInt8) : List Value := [bv c]
theorem bc_len (c : UInt8) : (bc c).length = 1 := rfl
theorem flat_bc (l : List UInt8) : flat bc l = l.map bv := by
  induction l with
  | nil => rfl
  | cons c l ih => rw [flat_cons, ih]; rfl
theorem bc_one (l : List UInt8) : ∀ u ∈ l.map bv, u.oneCell' = true := by
  intro u hu
  obtain ⟨c, _, rfl⟩ := List.mem_map.1 hu
  rfl

section
variable {P : Program} {w0 : World} {D : Nat → Prop} {n : Nat} [Dfr] {τ : Tm} {H : List Item} {o : Oper} {K : Tm → List Item → Prop}
theorem Yld.concatS {T u : Nat} {a c : Operand} {s t : List UInt8} (ho : o.op = .binOp .add T a c u) (hx : evl τ a = some (.string (bs s))) (hy : evl τ c = some (.string (bs t))) (hs : s.length + t.length ≤ 9223372036854775807) : Yld P w0 D n o τ H (.string (bs (s ++ t))) := by
  rw [← bs_append]
  exact Yld.concat ho hx hy (by rw [bs_size, bs_size]; exact hs)
/-- s[lo:hi], s[lo:], s[:hi] -/
theorem Yld.cutS {T : TypeId} {x lx hx : Operand} {s : List UInt8} {lo hi : Nat} {k k' : IntKind} {p q : Int} (ho : o.op = .slice T x (some lx) (some hx) none) (ex : evl τ x = some (.string (bs s))) (el : evl τ lx = some (.int k p)) (eh : evl τ hx = some (.int k' q)) (ht : P.underlying T = some .string) (hp : p = (lo : Int)) (hq : q = (hi : Int))
    (h1 : lo ≤ hi) (h2 : hi ≤ s.length) : Yld P w0 D n o τ H (.string (bs ((s.take hi).drop lo))) := ⟨fun a w hA hw => by
  subst hp; subst hq
  have := run_slice_string_if (P := P) w T (bs s) k k' (lo : Int) (hi : Int) ht
  rw [if_pos ⟨by omega, by rw [bs_size]; omega⟩, if_pos ⟨by omega, by omega⟩] at this
  simp only [Int.toNat_natCast, bs_extract] at this
  simp only [execOp, ho, hA.ev ex, Option.map_some, Option.map_none, hA.ev el, hA.ev eh]
  simp [Instr.sliceAt, run_underlying ht, this]⟩
theorem Yld.cutLoS {T : TypeId} {x lx : Operand} {s : List UInt8} {lo : Nat} {k : IntKind} {p : Int} (ho : o.op = .slice T x (some lx) none none) (ex : evl τ x = some (.string (bs s))) (el : evl τ lx = some (.int k p)) (ht : P.underlying T = some .string) (hp : p = (lo : Int))
    (h1 : lo ≤ s.length) : Yld P w0 D n o τ H (.string (bs (s.drop lo))) := ⟨fun a w hA hw => by
  subst hp
  have := run_slice_string_l (P := P) w T (bs s) ht k (lo : Int) (by omega) (by rw [bs_size]; omega)
  simp only [Int.toNat_natCast, bs_extract, bs_size, List.take_length] at this
  simp only [execOp, ho, hA.ev ex, Option.map_some, Option.map_none, hA.ev el]
  simp [Instr.sliceAt, run_underlying ht, this]⟩
theorem Yld.cutHiS {T : TypeId} {x hx : Operand} {s : List UInt8} {hi : Nat} {k' : IntKind} {q : Int} (ho : o.op = .slice T x none (some hx) none) (ex : evl τ x = some (.string (bs s))) (eh : evl τ hx = some (.int k' q)) (ht : P.underlying T = some .string) (hq : q = (hi : Int))
    (h2 : hi ≤ s.length) : Yld P w0 D n o τ H (.string (bs (s.take hi))) := ⟨fun a w hA hw => by
  subst hq
  have := run_slice_string_h (P := P) w T (bs s) ht k' (hi : Int) (by omega) (by rw [bs_size]; omega)
  simp only [Int.toNat_natCast, bs_extract, List.drop_zero] at this
  simp only [execOp, ho, hA.ev ex, Option.map_some, Option.map_none, hA.ev eh]
  simp [Instr.sliceAt, run_underlying ht, this]⟩
theorem Yld.indexB {T : TypeId} {x ix : Operand} {s : List UInt8} {kk : IntKind} {i : Int} (k : Nat) (ho : o.op = .index T x ix) (hx : evl τ x = some (.string (bs s))) (hi : evl τ ix = some (.int kk i)) (ht : P.underlying T = some .string) (hk : i = (k : Int))
    {b : UInt8} (hb : s[k]? = some b) : Yld P w0 D n o τ H (bv b) := Yld.indexStr k ho hx hi ht hk (by rw [bs_get]; exact hb)
theorem Yld.lenB {x : Operand} {t : TypeId} {s : List UInt8} (ho : o.op = .call { callee := .builtin .len, args := #[x], argTypes := #[t] }) (hx : evl τ x = some (.string (bs s))) (ht : P.underlying t = some .string) :
    Yld P w0 D n o τ H (.int .i64 s.length) := Yld.lenStr ho hx ht
/-- Two texts held against each other. -/
theorem Yld.eqS {T u : Nat} {x y : Operand} {s t : List UInt8} (ho : o.op = .binOp .eql T x y u) (hx : evl τ x = some (.string (bs s))) (hy : evl τ y = some (.string (bs t))) : Yld P w0 D n o τ H (.bool (s == t)) :=
  Yld.pure (by rw [ho]; simp only [pureOp, hx, hy, binV, strBin, bs_toList]) rfl
theorem Yld.neS {T u : Nat} {x y : Operand} {s t : List UInt8} (ho : o.op = .binOp .neq T x y u) (hx : evl τ x = some (.string (bs s))) (hy : evl τ y = some (.string (bs t))) : Yld P w0 D n o τ H (.bool (!(s == t))) :=
  Yld.pure (by rw [ho]; simp only [pureOp, hx, hy, binV, strBin, bs_toList]) rfl
theorem Sat.addNew {w w' : World} (h : Sat w0 D H w) {b : Nat} {it : Item} (hb : Below w.heap.size w w') (hn : b = w.heap.size) (hi : it.holds w') (hk : ∀ c, it.blk = some c → c = b) : Sat w0 D (it :: H) w' := by
  have h' := h.below hb
  refine ⟨h'.ext, fun x hx => ?_, fun x hx hm c hc => ?_, List.Pairwise.cons (fun y hy => .inr fun c hc e => ?_) h'.apart⟩
  · rcases List.mem_cons.1 hx with rfl | hx
    · exact hi
    · exact h'.holds x hx
  · rcases List.mem_cons.1 hx with rfl | hx
    · have := hk c hc
      have := h.size
      omega
    · exact h.own x hx hm c hc
  · have h1 := hk c hc
    have h2 := (h.holds y hy).lt e
    omega
/-- []byte(s): what is read of it. -/
theorem StepTo.toBytes {S T e d : Nat} {x : Operand} {s : List UInt8} (ho : o.op = .convert S T x) (hdst : o.dst = some d) (hd : Nat.blt d n = true) (hx : evl τ x = some (.string (bs s))) (hS : P.underlying S = some .string) (hT : P.underlying T = some (.slice e)) (he : P.underlying e = some (.int .u8)) (hm : s.length ≤ 4611686018427387904)
    (hK : ∀ b c, s.length ≤ c → K ((d, .slice (some ⟨b, 0, none⟩) s.length c) :: τ) (.vw (some ⟨b, 0, none⟩) s.length 1 (s.map bv) :: H)) : StepTo P w0 D n o τ H K := ⟨fun Kw Q hk a w ha hw => by
  have hr := run_bytes_of_string (P := P) w S T e (bs s) hS hT he
  have hc : s.length ≤ grownCap w s.length 0 e := grownCap_ge _ _ _ _
  generalize hg : grownCap w s.length 0 e = c at hr hc
  have hr' : (execOp a.eval o).run P w = .ok (.value (.slice (some ⟨w.heap.size, 0, none⟩) s.length c)) (w.drew.alloc (.cells (bytesRow (bs s) c) e ((bytesRow (bs s) c).size, (bytesRow (bs s) c).size + 1))) := by
    rw [bs_size, hg] at hr
    simp only [execOp, ho, ha.ev hx]
    simp [hr]
  unfold Oper.wp
  rw [hr', Oper.upon_value, hdst]
  refine hk _ _ (hK w.heap.size c hc) _ _ (ha.put (some d) _ hd) ?_
  refine hw.addNew (b := w.heap.size) ((Below.refl _ w).drew.alloc (Nat.le_refl _) _) rfl ⟨by simp, by simp only [maxLen]; omega, fun _ => ⟨w.heap.size, 0, rfl, ?_, fun j u hu => ?_⟩⟩ fun c hc => ?_
  · rw [World.size_alloc]; exact Nat.lt_succ_self _
  · have := World.cell?_alloc_mark w.drew (bytesRow (bs s) c) e ((bytesRow (bs s) c).size, (bytesRow (bs s) c).size + 1) j
    rw [Nat.zero_add]
    refine this.trans ?_
    rw [List.getElem?_map] at hu
    cases hj : s[j]? with
    | none => rw [hj] at hu; cases hu
    | some b =>
      rw [hj] at hu
      simp only [Option.map_some, Option.some.injEq] at hu
      obtain ⟨hlt, rfl⟩ := List.getElem?_eq_some_iff.1 hj
      rw [bytesRow_at (bs s) c j (by simpa [bs] using hlt), ← hu]
      rfl
  · cases hl : s.length with
    | zero => rw [hl] at hc; simp [Item.blk] at hc
    | succ m => rw [hl] at hc; simp [Item.blk] at hc; exact hc.symm⟩
/-- string(b) -/
theorem Yld.ofBytes {S T e : Nat} {x : Operand} {b off len c : Nat} {s : List UInt8} (ho : o.op = .convert S T x) (hx : evl τ x = some (.slice (some ⟨b, off, none⟩) len c)) (hS : P.underlying S = some (.slice e)) (he : P.underlying e = some (.int .u8)) (hT : P.underlying T = some .string) (hl : s.length = len)
    (hc : CellsAt w0 D H b off (s.map bv)) : Yld P w0 D n o τ H (.string (bs s)) := ⟨fun a w hA hw => by
  subst hl
  have := run_convert_bytes_back (P := P) w S T e ⟨b, off, none⟩ c s hS he hT (fun j hj => by
    rw [addr_add]
    exact hc w hw j _ (by rw [List.getElem?_map, List.getElem?_eq_getElem hj]; rfl))
  simp only [execOp, ho, hA.ev hx]
  simp [this, bs]⟩
end
end Go.Proofs.Ythbhjnmkbmmcnaa
