/- The operations of a region, one law each, over symbolic states. Of whatever program. -/
import Derived.Test.YthbhjnmkbmmcnaaSym
import Derived.IntWalk
namespace Go.Proofs.Ythbhjnmkbmmcnaa
open Go.RowKit Go.IntWalk
set_option linter.unusedVariables false
set_option linter.unusedSectionVars false

def intBin (op : BinOp) (k : IntKind) (a b : Int) : Option Value :=
  match op with
  | .add => some (.int k (k.wrap (a + b)))
  | .sub => some (.int k (k.wrap (a - b)))
  | .mul => some (.int k (k.wrap (a * b)))
  | .and => some (.int k (k.wrap (BitVec.ofInt k.bits a &&& BitVec.ofInt k.bits b).toNat))
  | .or => some (.int k (k.wrap (BitVec.ofInt k.bits a ||| BitVec.ofInt k.bits b).toNat))
  | .xor => some (.int k (k.wrap (BitVec.ofInt k.bits a ^^^ BitVec.ofInt k.bits b).toNat))
  | .eql => some (.bool (a == b))
  | .neq => some (.bool (a != b))
  | .lss => some (.bool (decide (a < b)))
  | .leq => some (.bool (decide (a ≤ b)))
  | .gtr => some (.bool (decide (a > b)))
  | .geq => some (.bool (decide (a ≥ b)))
  | _ => none
def strBin (op : BinOp) (a b : ByteArray) : Option Value :=
  match op with
  | .eql => some (.bool (a.toList == b.toList))
  | .neq => some (.bool !(a.toList == b.toList))
  | _ => none
def sameKind : IntKind → IntKind → Bool
  | .i8, .i8 | .i16, .i16 | .i32, .i32 | .i64, .i64 | .u8, .u8 | .u16, .u16 | .u32, .u32 | .u64, .u64 => true
  | _, _ => false
theorem sameKind_eq {a b : IntKind} (h : sameKind a b = true) : a = b := by cases a <;> cases b <;> first | rfl | cases h
def isShift : BinOp → Bool
  | .shl | .shr => true
  | _ => false
def binV (op : BinOp) : Option Value → Option Value → Option Value
  | some (.int k a), some (.int k' b) => bif isShift op then none else bif sameKind k k' then intBin op k a b else none
  | some (.string a), some (.string b) => strBin op a b
  | _, _ => none
def unV (op : UnOp) : Option Value → Option Value
  | some (.bool b) => match op with | .not => some (.bool (!b)) | _ => none
  | some (.int k m) => match op with | .neg => some (.int k (k.wrap (0 - m))) | _ => none
  | _ => none
/-- An element of a list, by its place. -/
def nth : List Value → Nat → Option Value
  | [], _ => none
  | v :: _, 0 => some v
  | _ :: r, i + 1 => nth r i
theorem nth_eq : ∀ (l : List Value) (i : Nat), nth l i = l[i]?
  | [], i => by simp [nth]
  | v :: r, 0 => rfl
  | v :: r, i + 1 => by simp [nth, nth_eq r i]
def tupV (i : Nat) : Option Value → Option Value
  | some (.tuple vs) => nth vs.toList i
  | _ => none
def ptrV : Option Value → Option Value
  | some (.pointer (some a)) => some (.pointer (some a))
  | some (.func (.func f) x y) => some (.func (.func f) x y)
  | _ => none
/-- What an operation that looks at no memory and at no type yields. -/
def pureOp (τ : Tm) : Op → Option Value
  | .move x => evl τ x
  | .assign x => evl τ x
  | .binOp op _ x y _ => binV op (evl τ x) (evl τ y)
  | .unOp op _ x => unV op (evl τ x)
  | .extract x i => tupV i (evl τ x)
  | .nilCheck x => ptrV (evl τ x)
  | _ => none

section
variable {P : Program} {w0 : World} {D : Nat → Prop} {n : Nat} [Dfr] {Q : Exit → Act → World → Prop} {τ : Tm} {H : List Item} {ops : Array Oper} {o : Oper} {l : List Oper} {v v' : Value} {K : Tm → List Item → Prop}
theorem pureOp_run {a : Act} (ha : Has n τ a) (h : pureOp τ o.op = some v) (w : World) : (execOp a.eval o).run P w = .ok (.value v) w := by
  cases ho : o.op <;> rw [ho] at h <;> simp only [pureOp] at h <;> (try (exact absurd h (by simp))) <;> simp only [execOp, ho]
  case move x => rw [ha.ev h]; rfl
  case assign x => rw [ha.ev h]; rfl
  case binOp op t x y u =>
    cases hx : evl τ x with
    | none => rw [hx] at h; simp [binV] at h
    | some vx =>
      cases hy : evl τ y with
      | none => rw [hx, hy] at h; cases vx <;> simp [binV] at h
      | some vy =>
        rw [hx, hy] at h
        simp only [ha.ev hx, ha.ev hy]
        cases vx <;> cases vy <;> simp only [binV] at h <;> try (cases h)
        case int.int k m k' m' =>
          cases hs : isShift op with
          | true => rw [hs] at h; simp at h
          | false =>
            rw [hs] at h
            cases hk : sameKind k k' with
            | false => rw [hk] at h; simp at h
            | true =>
              rw [hk] at h
              obtain rfl := sameKind_eq hk
              simp only [cond_true, cond_false] at h
              cases op <;> simp only [intBin] at h <;> (try cases h) <;> (try (simp [isShift] at hs; done)) <;>
                simp [eqGuard, binOp, Op.intArith, Op.intCmp, Op.intBits, Sem.run_pure]
        case string.string s s' =>
          cases op <;> simp only [strBin] at h <;> (try cases h) <;> simp [eqGuard, binOp, Op.stringOp, Sem.run_pure]
  case unOp op t x =>
    cases hx : evl τ x with
    | none => rw [hx] at h; simp [unV] at h
    | some vx =>
      rw [hx] at h
      simp only [ha.ev hx]
      cases vx <;> simp only [unV] at h <;> (try cases h) <;> cases op <;> simp only at h <;> (try cases h) <;>
        simp [Op.unary, Op.intArith, Sem.run_pure]
  case extract x i =>
    cases hx : evl τ x with
    | none => rw [hx] at h; simp [tupV] at h
    | some vx =>
      rw [hx] at h
      simp only [ha.ev hx]
      cases vx <;> simp only [tupV] at h <;> (try cases h)
      rename_i vs
      rw [nth_eq] at h
      have h' : vs[i]? = some v := by simpa using h
      simp [Instr.extract, h', Sem.run_pure]
  case nilCheck x =>
    cases hx : evl τ x with
    | none => rw [hx] at h; simp [ptrV] at h
    | some vx =>
      rw [hx] at h
      simp only [ha.ev hx]
      cases vx <;> simp only [ptrV] at h <;> (try cases h)
      case pointer a => cases a <;> simp at h; subst h; rfl
      case func f x y => cases f <;> simp at h; subst h; rfl
theorem Yld.pure (h : pureOp τ o.op = some v) (hn : v = v') : Yld P w0 D n o τ H v' := ⟨fun a w ha hw => by subst hn; exact pureOp_run ha h w⟩

theorem nI64 {x : Int} (h : -9223372036854775808 ≤ x ∧ x ≤ 9223372036854775807) : Value.int .i64 (IntKind.i64.wrap x) = .int .i64 x := by rw [i64_in x h]
theorem nU8 {x : Int} (h : 0 ≤ x ∧ x ≤ 255) : Value.int .u8 (IntKind.u8.wrap x) = .int .u8 x := by rw [u8_in x h]
theorem nU16 {x : Int} (h : 0 ≤ x ∧ x ≤ 65535) : Value.int .u16 (IntKind.u16.wrap x) = .int .u16 x := by rw [u16_in x h]
theorem nU32 {x : Int} (h : 0 ≤ x ∧ x ≤ 4294967295) : Value.int .u32 (IntKind.u32.wrap x) = .int .u32 x := by rw [u32_in x h]
theorem nU64 {x : Int} (h : 0 ≤ x ∧ x ≤ 18446744073709551615) : Value.int .u64 (IntKind.u64.wrap x) = .int .u64 x := by rw [u64_in x h]
theorem mU8 {x : Int} : Value.int .u8 (IntKind.u8.wrap x) = .int .u8 (x % 256) := by rw [IntKind.wrap_u8]
theorem mU16 {x : Int} : Value.int .u16 (IntKind.u16.wrap x) = .int .u16 (x % 65536) := by rw [IntKind.wrap_u16]
theorem mU32 {x : Int} : Value.int .u32 (IntKind.u32.wrap x) = .int .u32 (x % 4294967296) := by rw [IntKind.wrap_u32]

/-! ### Types -/
omit [Dfr] in
def aggD : Option TypeDesc → Bool
  | some (.struct _) | some (.array _ _) => true
  | _ => false
theorem run_isAgg {t : TypeId} {d : TypeDesc} (h : P.underlying t = some d) (w : World) : (isAgg t).run P w = .ok (aggD (some d)) w := by
  cases d <;> simp [isAgg, run_underlying h, aggD, Sem.run_bind, Sem.run_pure]

/-! ### Loads -/
omit [Dfr] in
def CellAt (w0 : World) (D : Nat → Prop) (H : List Item) (b o : Nat) (v : Value) : Prop := ∀ w, Sat w0 D H w → w.cell? ⟨b, o, none⟩ = some v
theorem CellAt.box (i : Nat) {b t off : Nat} {cs : List Value} (hi : H[i]? = some (.box b t cs)) (hc : cs[off]? = some v) : CellAt w0 D H b off v := fun w hw => by
  have h := hw.holds _ (List.mem_of_getElem? hi)
  rw [cell_of_row w b off cs.toArray t (0, 0) h]
  simpa using hc
theorem CellAt.row (i : Nat) {b m c t k off : Nat} {xs : List Value} (hi : H[i]? = some (.row (some ⟨b, 0, none⟩) m c t k xs)) (hc : xs[off]? = some v) : CellAt w0 D H b off v := fun w hw => by
  have h := hw.holds _ (List.mem_of_getElem? hi)
  have := World.ownsRow.cells h (g := b) rfl off v hc
  rwa [addr_add, Nat.zero_add] at this
theorem CellAt.inp {H : List Item} {b off : Nat} (h : w0.cell? ⟨b, off, none⟩ = some v) : CellAt w0 (fun _ => False) H b off v := fun w hw =>
  ((hw.ext.below).cell (p := ⟨b, off, none⟩) (World.block_lt_of_cell? w0 _ h)).trans h
omit [Dfr] in
/-- Cells one behind the other. -/
def CellsAt (w0 : World) (D : Nat → Prop) (H : List Item) (b o : Nat) (vs : List Value) : Prop := ∀ w, Sat w0 D H w → ∀ j u, vs[j]? = some u → w.cell? ⟨b, o + j, none⟩ = some u
omit [Dfr] in
/-- A part of a list, if it is there. -/
def cut : List Value → Nat → Nat → Option (List Value)
  | _, 0, 0 => some []
  | [], _, _ => none
  | v :: r, 0, m + 1 => match cut r 0 m with | some l => some (v :: l) | none => none
  | _ :: r, o + 1, m => cut r o m
theorem cut_get : ∀ (cs : List Value) (o m : Nat) (vs : List Value), cut cs o m = some vs → vs.length = m ∧ ∀ j u, vs[j]? = some u → cs[o + j]? = some u
  | [], 0, 0, vs, h => by simp [cut] at h; subst h; simp
  | [], 0, m + 1, vs, h => by simp [cut] at h
  | [], o + 1, m, vs, h => by simp [cut] at h
  | v :: r, 0, 0, vs, h => by simp [cut] at h; subst h; simp
  | v :: r, 0, m + 1, vs, h => by
    simp only [cut] at h
    cases hc : cut r 0 m with
    | none => rw [hc] at h; cases h
    | some l =>
      rw [hc] at h
      injection h with h
      subst h
      obtain ⟨h1, h2⟩ := cut_get r 0 m l hc
      refine ⟨by simp [h1], fun j u hu => ?_⟩
      cases j with
      | zero => simpa using hu
      | succ j => have := h2 j u (by simpa using hu); simpa using this
  | v :: r, o + 1, m, vs, h => by
    have h' : cut r o m = some vs := by cases m <;> simpa [cut] using h
    obtain ⟨h1, h2⟩ := cut_get r o m vs h'
    refine ⟨h1, fun j u hu => ?_⟩
    have := h2 j u hu
    rw [show o + 1 + j = (o + j) + 1 from by omega, List.getElem?_cons_succ]
    exact this
omit [Dfr] in
/-- So many cells one behind the other. -/
def AggAt (w0 : World) (D : Nat → Prop) (H : List Item) (b o m : Nat) (vs : List Value) : Prop := vs.length = m ∧ CellsAt w0 D H b o vs
theorem CellsAt.box (i : Nat) {b t off m : Nat} {cs vs : List Value} (hi : H[i]? = some (.box b t cs)) (hc : cut cs off m = some vs) : CellsAt w0 D H b off vs := fun w hw j u hu => by
  have h := hw.holds _ (List.mem_of_getElem? hi)
  rw [cell_of_row w b _ cs.toArray t (0, 0) h]
  simpa using (cut_get _ _ _ _ hc).2 j u hu
theorem run_loadVar1 {T b off : Nat} {d : TypeDesc} {w : World} (ht : P.underlying T = some d) (ha : aggD (some d) = false) (hc : CellAt w0 D H b off v) (hw : Sat w0 D H w) : (loadVar T ⟨b, off, none⟩).run P w = .ok v w := by
  simp [loadVar, run_isAgg ht, ha, Sem.run_bind, hc w hw]
theorem run_loadVarA {T b off m : Nat} {d : TypeDesc} {vs : List Value} {w : World} (ht : P.underlying T = some d) (ha : aggD (some d) = true) (hs : (P.info? T).map (·.size) = some m) (hc : CellsAt w0 D H b off vs) (hl : vs.length = m) (hw : Sat w0 D H w) :
    (loadVar T ⟨b, off, none⟩).run P w = .ok (.agg vs.toArray) w := by
  obtain ⟨i, hi, rfl⟩ : ∃ i, P.info? T = some i ∧ i.size = m := by
    cases hh : P.info? T with
    | none => rw [hh] at hs; cases hs
    | some i => rw [hh] at hs; exact ⟨i, rfl, by simpa using hs⟩
  have hload : (loadCells (⟨b, off, none⟩ : Addr) i.size).run P w = .ok vs.toArray w := by
    have := run_loadCells (P := P) (w := w) (⟨b, off, none⟩ : Addr) i.size (fun j => vs.getD j undef) (fun j hj => by
      rw [addr_add]
      have hj' : j < vs.length := by omega
      rw [hc w hw j vs[j] (List.getElem?_eq_getElem hj')]
      simp [List.getD, List.getElem?_eq_getElem hj'])
    rw [this]
    congr 1
    apply Array.ext
    · simp [hl]
    · intro j h1 h2
      simp at h1 h2 ⊢
      rw [List.getElem?_eq_getElem (by omega)]; rfl
  simp [loadVar, run_isAgg ht, ha, Sem.run_bind, Sem.run_pure, sizeOf, typeInfo, hi, program, Sem.run, hload]
theorem CellsAt.boxAll (i : Nat) {b t : Nat} {cs : List Value} (hi : H[i]? = some (.box b t cs)) : CellsAt w0 D H b 0 cs := fun w hw j u hu => by
  have h := hw.holds _ (List.mem_of_getElem? hi)
  rw [cell_of_row w b _ cs.toArray t (0, 0) h, Nat.zero_add]
  simpa using hu
theorem AggAt.box (i : Nat) {b t off m : Nat} {cs vs : List Value} (hi : H[i]? = some (.box b t cs)) (hc : cut cs off m = some vs) : AggAt w0 D H b off m vs := ⟨(cut_get _ _ _ _ hc).1, CellsAt.box i hi hc⟩
theorem AggAt.of {b off m : Nat} {vs : List Value} (h : CellsAt w0 D H b off vs) (hl : vs.length = m) : AggAt w0 D H b off m vs := ⟨hl, h⟩
theorem Yld.load {T : TypeId} {x : Operand} {b off : Nat} {d : TypeDesc} (ho : o.op = .load T x) (hx : evl τ x = some (.pointer (some ⟨b, off, none⟩))) (ht : P.underlying T = some d) (ha : aggD (some d) = false)
    (hc : CellAt w0 D H b off v) : Yld P w0 D n o τ H v := ⟨fun a w h hw => by
  simp only [execOp, ho, h.ev hx]
  simp [Instr.loadAt, Instr.sureAddr, run_loadVar1 ht ha hc hw]⟩
theorem Yld.loadAgg {T : TypeId} {x : Operand} {b off m : Nat} {d : TypeDesc} {vs : List Value} (ho : o.op = .load T x) (hx : evl τ x = some (.pointer (some ⟨b, off, none⟩))) (ht : P.underlying T = some d) (ha : aggD (some d) = true)
    (hs : (P.info? T).map (·.size) = some m) (hc : AggAt w0 D H b off m vs) : Yld P w0 D n o τ H (.agg vs.toArray) := ⟨fun a w h hw => by
  simp only [execOp, ho, h.ev hx]
  simp [Instr.loadAt, Instr.sureAddr, run_loadVarA ht ha hs hc.2 hc.1 hw]⟩

/-! ### What a function hands back -/
omit [Dfr] in
def resSem (tmps : Array Value) : ResultVar → Sem Value
  | .tmp t => pure (tmps.getD t undef)
  | .cell b t => do loadVar t (← asAddr (tmps.getD b undef))
theorem results_eq (fn : Func) (tmps : Array Value) : results fn tmps = (do let vs ← fn.results.mapM (resSem tmps); pure (if h : vs.size = 1 then vs[0] else .tuple vs)) := rfl
/-- One result, read. -/
structure Res1 (P : Program) (w0 : World) (D : Nat → Prop) (n : Nat) (τ : Tm) (H : List Item) (r : ResultVar) (v : Value) : Prop where
  go : ∀ a w, Has n τ a → Sat w0 D H w → (resSem a.tmps r).run P w = .ok v w
theorem Has.gd {a : Act} (h : Has n τ a) {t : Nat} {v : Value} (ht : look τ t = some v) : a.tmps.getD t undef = v := by
  have := h.at_ t v ht
  simp [Array.getD_eq_getD_getElem?, this]
theorem Res1.tmp {t : Nat} (ht : look τ t = some v) : Res1 P w0 D n τ H (.tmp t) v := ⟨fun a w ha hw => by
  simp only [resSem, ha.gd ht, Sem.run_pure]⟩
theorem Res1.cell {a0 T b off : Nat} {d : TypeDesc} (hx : look τ a0 = some (.pointer (some ⟨b, off, none⟩))) (ht : P.underlying T = some d) (ha : aggD (some d) = false) (hc : CellAt w0 D H b off v) : Res1 P w0 D n τ H (.cell a0 T) v := ⟨fun a w h hw => by
  simp only [resSem, h.gd hx]
  simp [asAddr, run_loadVar1 ht ha hc hw]⟩
theorem Res1.cellA {a0 T b off m : Nat} {d : TypeDesc} {vs : List Value} (hx : look τ a0 = some (.pointer (some ⟨b, off, none⟩))) (ht : P.underlying T = some d) (ha : aggD (some d) = true) (hs : (P.info? T).map (·.size) = some m) (hc : AggAt w0 D H b off m vs) :
    Res1 P w0 D n τ H (.cell a0 T) (.agg vs.toArray) := ⟨fun a w h hw => by
  simp only [resSem, h.gd hx]
  simp [asAddr, run_loadVarA ht ha hs hc.2 hc.1 hw]⟩
theorem Reads.one {fn : Func} {r : ResultVar} (hf : fn.results = #[r]) (h : Res1 P w0 D n τ H r v) : Reads P w0 D n τ H fn v := fun a w ha hw => by
  have := h.go a w ha hw
  rw [results_eq]
  simp [hf, this]
theorem Reads.two {fn : Func} {r s : ResultVar} {v' : Value} (hf : fn.results = #[r, s]) (h : Res1 P w0 D n τ H r v) (h' : Res1 P w0 D n τ H s v') : Reads P w0 D n τ H fn (.tuple #[v, v']) := fun a w ha hw => by
  have h1 := h.go a w ha hw
  have h2 := h'.go a w ha hw
  rw [results_eq]
  simp [hf, h1, h2]
theorem Reads.three {fn : Func} {r s u : ResultVar} {v' v'' : Value} (hf : fn.results = #[r, s, u]) (h : Res1 P w0 D n τ H r v) (h' : Res1 P w0 D n τ H s v') (h'' : Res1 P w0 D n τ H u v'') : Reads P w0 D n τ H fn (.tuple #[v, v', v'']) := fun a w ha hw => by
  have h1 := h.go a w ha hw
  have h2 := h'.go a w ha hw
  have h3 := h''.go a w ha hw
  rw [results_eq]
  simp [hf, h1, h2, h3]
end
section
variable {P : Program} {w0 : World} {D : Nat → Prop} {n : Nat} [Dfr] {Q : Exit → Act → World → Prop} {τ : Tm} {H : List Item} {ops : Array Oper} {o : Oper} {l : List Oper} {v v' : Value} {K : Tm → List Item → Prop}
theorem run_sizeOf {t : TypeId} {m : Nat} (h : (P.info? t).map (·.size) = some m) (w : World) : (sizeOf t).run P w = .ok m w := by
  cases hh : P.info? t with
  | none => rw [hh] at h; cases h
  | some i =>
    rw [hh] at h
    simp only [Option.map_some, Option.some.injEq] at h
    simp [sizeOf, typeInfo, program, Sem.run, hh, h]
omit [Dfr] in
/-- A small number, written out. -/
def litN (x : Nat) : Option Nat :=
  bif Nat.beq x 0 then some 0 else
  bif Nat.beq x 1 then some 1 else
  bif Nat.beq x 2 then some 2 else
  bif Nat.beq x 3 then some 3 else
  bif Nat.beq x 4 then some 4 else
  bif Nat.beq x 5 then some 5 else
  bif Nat.beq x 6 then some 6 else
  bif Nat.beq x 7 then some 7 else
  bif Nat.beq x 8 then some 8 else
  bif Nat.beq x 9 then some 9 else
  bif Nat.beq x 10 then some 10 else
  bif Nat.beq x 11 then some 11 else
  bif Nat.beq x 12 then some 12 else
  bif Nat.beq x 13 then some 13 else
  bif Nat.beq x 14 then some 14 else
  bif Nat.beq x 15 then some 15 else
  bif Nat.beq x 16 then some 16 else
  bif Nat.beq x 17 then some 17 else
  bif Nat.beq x 18 then some 18 else
  bif Nat.beq x 19 then some 19 else
  bif Nat.beq x 20 then some 20 else
  bif Nat.beq x 21 then some 21 else
  bif Nat.beq x 22 then some 22 else
  bif Nat.beq x 23 then some 23 else
  bif Nat.beq x 24 then some 24 else
  bif Nat.beq x 25 then some 25 else
  bif Nat.beq x 26 then some 26 else
  bif Nat.beq x 27 then some 27 else
  bif Nat.beq x 28 then some 28 else
  bif Nat.beq x 29 then some 29 else
  bif Nat.beq x 30 then some 30 else
  bif Nat.beq x 31 then some 31 else
  bif Nat.beq x 32 then some 32 else
  bif Nat.beq x 33 then some 33 else
  bif Nat.beq x 34 then some 34 else
  bif Nat.beq x 35 then some 35 else
  bif Nat.beq x 36 then some 36 else
  bif Nat.beq x 37 then some 37 else
  bif Nat.beq x 38 then some 38 else
  bif Nat.beq x 39 then some 39 else
  bif Nat.beq x 40 then some 40 else none
theorem lit_or {x k y : Nat} {r : Option Nat} (h : (bif Nat.beq x k then some k else r) = some y) : x = y ∨ r = some y := by
  cases hb : Nat.beq x k with
  | true =>
    rw [hb] at h
    have := Nat.eq_of_beq_eq_true hb
    simp at h
    exact .inl (by omega)
  | false => rw [hb] at h; exact .inr h
theorem litN_eq {x y : Nat} (h : litN x = some y) : x = y := by
  unfold litN at h
  rcases lit_or h with h | h
  · exact h
  rcases lit_or h with h | h
  · exact h
  rcases lit_or h with h | h
  · exact h
  rcases lit_or h with h | h
  · exact h
  rcases lit_or h with h | h
  · exact h
  rcases lit_or h with h | h
  · exact h
  rcases lit_or h with h | h
  · exact h
  rcases lit_or h with h | h
  · exact h
  rcases lit_or h with h | h
  · exact h
  rcases lit_or h with h | h
  · exact h
  rcases lit_or h with h | h
  · exact h
  rcases lit_or h with h | h
  · exact h
  rcases lit_or h with h | h
  · exact h
  rcases lit_or h with h | h
  · exact h
  rcases lit_or h with h | h
  · exact h
  rcases lit_or h with h | h
  · exact h
  rcases lit_or h with h | h
  · exact h
  rcases lit_or h with h | h
  · exact h
  rcases lit_or h with h | h
  · exact h
  rcases lit_or h with h | h
  · exact h
  rcases lit_or h with h | h
  · exact h
  rcases lit_or h with h | h
  · exact h
  rcases lit_or h with h | h
  · exact h
  rcases lit_or h with h | h
  · exact h
  rcases lit_or h with h | h
  · exact h
  rcases lit_or h with h | h
  · exact h
  rcases lit_or h with h | h
  · exact h
  rcases lit_or h with h | h
  · exact h
  rcases lit_or h with h | h
  · exact h
  rcases lit_or h with h | h
  · exact h
  rcases lit_or h with h | h
  · exact h
  rcases lit_or h with h | h
  · exact h
  rcases lit_or h with h | h
  · exact h
  rcases lit_or h with h | h
  · exact h
  rcases lit_or h with h | h
  · exact h
  rcases lit_or h with h | h
  · exact h
  rcases lit_or h with h | h
  · exact h
  rcases lit_or h with h | h
  · exact h
  rcases lit_or h with h | h
  · exact h
  rcases lit_or h with h | h
  · exact h
  rcases lit_or h with h | h
  · exact h
  cases h
omit [Dfr] in
def szOf (P : Program) (e : TypeId) : Option Nat := match P.info? e with | some i => litN i.size | none => none
theorem szOf_eq {P : Program} {e m : Nat} (h : szOf P e = some m) : (P.info? e).map (·.size) = some m := by
  unfold szOf at h
  cases hi : P.info? e with
  | none => rw [hi] at h; cases h
  | some i => rw [hi] at h; simp [litN_eq h]
theorem Yld.fieldAddr {S i : Nat} {x : Operand} {b off m fo : Nat} {fs : Array Field} {f : Field} (ho : o.op = .fieldAddr S x i) (hx : evl τ x = some (.pointer (some ⟨b, off, none⟩))) (ht : P.underlying S = some (.struct fs)) (hf : fs[i]? = some f)
    (hs : (P.info? f.type).map (·.size) = some m) (hm : Nat.beq m 0 = false) (hfo : litN f.offset = some fo) : Yld P w0 D n o τ H (.pointer (some ⟨b, off + fo, none⟩)) := ⟨fun a w h hw => by
  have hm' : m ≠ 0 := fun e => by subst e; simp [Nat.beq] at hm
  have e := litN_eq hfo
  subst e
  simp only [execOp, ho, h.ev hx]
  simp [Instr.fieldAt, run_underlying ht, hf, Instr.sureAddr, fieldPlace, run_sizeOf hs, hm', addr_add]⟩
theorem Yld.field1 {T i : Nat} {x : Operand} {fs : Array Field} {f : Field} {cs : List Value} {d : TypeDesc} (ho : o.op = .field T x i) (hx : evl τ x = some (.agg cs.toArray)) (ht : P.underlying T = some (.struct fs)) (hf : fs[i]? = some f)
    (hd : P.underlying f.type = some d) (ha : aggD (some d) = false) (hc : cs[f.offset]? = some v) : Yld P w0 D n o τ H v := ⟨fun a w h hw => by
  simp only [execOp, ho, h.ev hx]
  simp [Instr.field, run_underlying ht, hf, part, asAgg, run_isAgg hd, ha, hc]⟩
theorem cut_take : ∀ (cs : List Value) (o m : Nat) (vs : List Value), cut cs o m = some vs → (cs.drop o).take m = vs
  | [], 0, 0, vs, h => by simp [cut] at h; subst h; simp
  | [], 0, m + 1, vs, h => by simp [cut] at h
  | [], o + 1, m, vs, h => by simp [cut] at h
  | v :: r, 0, 0, vs, h => by simp [cut] at h; subst h; simp
  | v :: r, 0, m + 1, vs, h => by
    simp only [cut] at h
    cases hc : cut r 0 m with
    | none => rw [hc] at h; cases h
    | some l =>
      rw [hc] at h
      injection h with h
      subst h
      have := cut_take r 0 m l hc
      simpa using this
  | v :: r, o + 1, m, vs, h => by
    have h' : cut r o m = some vs := by cases m <;> simpa [cut] using h
    simpa using cut_take r o m vs h'
theorem Yld.fieldA {T i : Nat} {x : Operand} {fs : Array Field} {f : Field} {cs vs : List Value} {d : TypeDesc} {m : Nat} (ho : o.op = .field T x i) (hx : evl τ x = some (.agg cs.toArray)) (ht : P.underlying T = some (.struct fs)) (hf : fs[i]? = some f)
    (hd : P.underlying f.type = some d) (ha : aggD (some d) = true) (hs : (P.info? f.type).map (·.size) = some m) (hc : cut cs f.offset m = some vs) : Yld P w0 D n o τ H (.agg vs.toArray) := ⟨fun a w h hw => by
  simp only [execOp, ho, h.ev hx]
  have := cut_take _ _ _ _ hc
  simp [Instr.field, run_underlying ht, hf, part, asAgg, run_isAgg hd, ha, run_sizeOf hs, this]⟩
/-- The address of an element of a slice. -/
theorem Yld.indexS {T e : Nat} {x ix : Operand} {b off len cap m : Nat} {kk : IntKind} {i : Int} (k : Nat) (ho : o.op = .indexAddr T x ix) (hx : evl τ x = some (.slice (some ⟨b, off, none⟩) len cap)) (hi : evl τ ix = some (.int kk i))
    (ht : P.underlying T = some (.slice e)) (hs : szOf P e = some m) (hk : i = (k : Int)) (hlt : k < len) : Yld P w0 D n o τ H (.pointer (some ⟨b, off + k * m, none⟩)) := ⟨fun a w h hw => by
  have hs := szOf_eq hs
  subst hk
  simp only [execOp, ho, h.ev hx, h.ev hi]
  have h1 : (0 : Int) ≤ (k : Int) := by omega
  simp [Instr.indexAt, asIntOf, run_underlying ht, run_sizeOf hs, h1, addr_add, hlt]⟩
/-- The address of an element of an array variable. -/
theorem Yld.indexA {T e : Nat} {x ix : Operand} {b off len m : Nat} {kk : IntKind} {i : Int} (k : Nat) (ho : o.op = .indexAddr T x ix) (hx : evl τ x = some (.pointer (some ⟨b, off, none⟩))) (hi : evl τ ix = some (.int kk i))
    (ht : P.underlying T = some (.array len e)) (hs : szOf P e = some m) (hk : i = (k : Int)) (hlt : k < len) : Yld P w0 D n o τ H (.pointer (some ⟨b, off + k * m, none⟩)) := ⟨fun a w h hw => by
  have hs := szOf_eq hs
  subst hk
  simp only [execOp, ho, h.ev hx, h.ev hi]
  have h1 : (0 : Int) ≤ (k : Int) := by omega
  simp [Instr.indexAt, asIntOf, run_underlying ht, run_sizeOf hs, h1, addr_add, Instr.sureAddr, hlt]⟩
theorem Yld.convInt {s d : TypeId} {x : Operand} {ds : TypeDesc} {k k0 : IntKind} {m : Int} (ho : o.op = .convert s d x) (hx : evl τ x = some (.int k0 m)) (hs : P.underlying s = some ds) (hd : P.underlying d = some (.int k))
    (hn : Value.int k (k.wrap m) = v) : Yld P w0 D n o τ H v := ⟨fun a w h hw => by
  subst hn
  simp only [execOp, ho, h.ev hx]
  cases ds <;> simp [convert, run_underlying hs, run_underlying hd, Conv.intToInt]⟩
theorem Yld.lenSlice {x : Operand} {t e : TypeId} {A : Option Addr} {len cap : Nat} (ho : o.op = .call { callee := .builtin .len, args := #[x], argTypes := #[t] }) (hx : evl τ x = some (.slice A len cap)) (ht : P.underlying t = some (.slice e)) :
    Yld P w0 D n o τ H (.int .i64 len) := ⟨fun a w h hw => by
  simp [execOp, ho, resolve, invoke, builtin, h.ev hx, Builtin.len_, run_underlying ht, goInt]⟩
theorem Yld.lenStr {x : Operand} {t : TypeId} {s : ByteArray} (ho : o.op = .call { callee := .builtin .len, args := #[x], argTypes := #[t] }) (hx : evl τ x = some (.string s)) (ht : P.underlying t = some .string) :
    Yld P w0 D n o τ H (.int .i64 s.size) := ⟨fun a w h hw => by
  simp [execOp, ho, resolve, invoke, builtin, h.ev hx, Builtin.len_, run_underlying ht, goInt]⟩
/-- s[i]. -/
theorem Yld.indexStr {T : TypeId} {x ix : Operand} {s : ByteArray} {kk : IntKind} {i : Int} (k : Nat) (ho : o.op = .index T x ix) (hx : evl τ x = some (.string s)) (hi : evl τ ix = some (.int kk i)) (ht : P.underlying T = some .string) (hk : i = (k : Int))
    {b : UInt8} (hb : s[k]? = some b) : Yld P w0 D n o τ H (.int .u8 b.toNat) := ⟨fun a w h hw => by
  subst hk
  simp only [execOp, ho, h.ev hx, h.ev hi]
  have h1 : (0 : Int) ≤ (k : Int) := by omega
  simp [Instr.index, asIntOf, run_underlying ht, h1, hb]⟩
theorem Yld.rem {T u : Nat} {x y : Operand} {k k' : IntKind} {p q : Int} (ho : o.op = .binOp .rem T x y u) (hx : evl τ x = some (.int k p)) (hy : evl τ y = some (.int k' q)) (hk : k = k') (h0 : 0 ≤ p) (hq : 0 < q) : Yld P w0 D n o τ H (.int k (p % q)) :=
  ⟨fun a w h hw => by
    subst hk
    have hq' : ¬ q = 0 := by omega
    simp [execOp, ho, h.ev hx, h.ev hy, eqGuard, binOp, Op.intDiv, hq', rem_in p q h0]⟩
/-- A quotient of two numbers that are not negative. -/
theorem Yld.quo {T u : Nat} {x y : Operand} {k k' : IntKind} {p q : Int} (ho : o.op = .binOp .quo T x y u) (hx : evl τ x = some (.int k p)) (hy : evl τ y = some (.int k' q)) (hk : k = k') (h0 : 0 ≤ p) (hq : 0 < q) (hv : Value.int k (k.wrap (p / q)) = v) : Yld P w0 D n o τ H v :=
  ⟨fun a w h hw => by
    subst hk
    subst hv
    have hq' : ¬ q = 0 := by omega
    simp [execOp, ho, h.ev hx, h.ev hy, eqGuard, binOp, Op.intDiv, hq', Int.tdiv_eq_ediv_of_nonneg h0]⟩
theorem Yld.shl {T u : Nat} {x y : Operand} {k k' : IntKind} {p : Int} (q : Nat) (ho : o.op = .binOp .shl T x y u) (hx : evl τ x = some (.int k p)) (hy : evl τ y = some (.int k' q)) (hq : Nat.ble q k.bits = true) (hv : Value.int k (k.wrap (p * 2 ^ q)) = v) : Yld P w0 D n o τ H v :=
  ⟨fun a w h hw => by
    subst hv
    have hq' : min q k.bits = q := Nat.min_eq_left (Nat.le_of_ble_eq_true hq)
    have h0 : ¬ ((q : Int) < 0) := by omega
    simp [execOp, ho, h.ev hx, h.ev hy, eqGuard, binOp, Op.shift, hq', h0]⟩
theorem Yld.shr {T u : Nat} {x y : Operand} {k k' : IntKind} {p : Int} (q : Nat) (ho : o.op = .binOp .shr T x y u) (hx : evl τ x = some (.int k p)) (hy : evl τ y = some (.int k' q)) (hq : Nat.ble q k.bits = true) (hv : Value.int k (p / 2 ^ q) = v) : Yld P w0 D n o τ H v :=
  ⟨fun a w h hw => by
    subst hv
    have hq' : min q k.bits = q := Nat.min_eq_left (Nat.le_of_ble_eq_true hq)
    have h0 : ¬ ((q : Int) < 0) := by omega
    have h2 : p.fdiv (2 ^ q) = p / 2 ^ q := Int.fdiv_eq_ediv_of_nonneg _ (Int.pow_nonneg (by omega))
    simp [execOp, ho, h.ev hx, h.ev hy, eqGuard, binOp, Op.shift, hq', h0, h2]⟩
/-- The test of two Bools. -/
theorem Yld.eqlB {T u : Nat} {x y : Operand} {p q : Bool} (ho : o.op = .binOp .eql T x y u) (hx : evl τ x = some (.bool p)) (hy : evl τ y = some (.bool q)) (ht : P.underlying T = some .bool) : Yld P w0 D n o τ H (.bool (p == q)) :=
  ⟨fun a w h hw => by
    have he : (Op.equal T (.bool p) (.bool q)).run P w = .ok (p == q) w := run_equalIn_bool w 9999 T p q ht
    simp [execOp, ho, h.ev hx, h.ev hy, eqGuard, binOp, he]⟩
theorem Yld.neqB {T u : Nat} {x y : Operand} {p q : Bool} (ho : o.op = .binOp .neq T x y u) (hx : evl τ x = some (.bool p)) (hy : evl τ y = some (.bool q)) (ht : P.underlying T = some .bool) : Yld P w0 D n o τ H (.bool (!(p == q))) :=
  ⟨fun a w h hw => by
    have he : (Op.equal T (.bool p) (.bool q)).run P w = .ok (p == q) w := run_equalIn_bool w 9999 T p q ht
    simp [execOp, ho, h.ev hx, h.ev hy, eqGuard, binOp, he]⟩
/-! ### A struct, put together -/
omit [Dfr] in
/-- Cells, a part of them written over. -/
def over : List Value → Nat → List Value → List Value
  | [], _, _ => []
  | c :: r, 0, [] => c :: r
  | c :: r, 0, v :: vs => v :: over r 0 vs
  | c :: r, o + 1, vs => c :: over r o vs
theorem over_nil (cs : List Value) : over cs 0 [] = cs := by cases cs <;> rfl
theorem over_foldl : ∀ (vs : List Value) (cs : List Value) (o j : Nat), (vs.zipIdx j).foldl (fun (cs : List Value) (p : Value × Nat) => cs.set (o + p.2) p.1) cs = (vs.zipIdx j).foldl (fun (cs : List Value) (p : Value × Nat) => cs.set (o + p.2) p.1) cs := fun _ _ _ _ => rfl
omit [Dfr] in
/-- The parts, one by one, written into the zero value: 'pl i': where part i lies, and its size. -/
def fillL (pl : List (Nat × Nat)) : List Value → List (Nat × Value) → Option (List Value)
  | cs, [] => some cs
  | cs, (i, v) :: r => match pl[i]? with
    | some (off, size) => bif Nat.beq v.cells.toList.length size && Nat.ble (off + v.cells.toList.length) cs.length then fillL pl (over cs off v.cells.toList) r else none
    | none => none
/-! ### Cells that came in; parts of a row -/
omit [Dfr] in
/-- From here on the cells read so, when the call began. -/
def InpAt (w0 : World) (b o : Nat) (vs : List Value) : Prop := ∀ j u, vs[j]? = some u → w0.cell? ⟨b, o + j, none⟩ = some u
theorem CellAt.ofInp {H : List Item} {b off j : Nat} {vs : List Value} (h : InpAt w0 b off vs) (hj : vs[j]? = some v) : CellAt w0 (fun _ => False) H b (off + j) v := CellAt.inp (h j v hj)
theorem CellsAt.ofInp {H : List Item} {b off : Nat} {vs : List Value} (h : InpAt w0 b off vs) : CellsAt w0 (fun _ => False) H b off vs := fun w hw j u hu => CellAt.inp (h j u hu) w hw
omit [Dfr] in
def PartAt (xs : List Value) (o : Nat) (vs : List Value) : Prop := ∀ j u, vs[j]? = some u → xs[o + j]? = some u
theorem CellAt.rowP (i : Nat) {b m c t k o' j : Nat} {xs vs : List Value} (hi : H[i]? = some (.row (some ⟨b, 0, none⟩) m c t k xs)) (hp : PartAt xs o' vs) (hj : vs[j]? = some v) : CellAt w0 D H b (0 + o' + j) v := by
  rw [Nat.zero_add]
  exact CellAt.row i hi (hp j v hj)
theorem CellsAt.rowP (i : Nat) {b m c t k o' : Nat} {xs vs : List Value} (hi : H[i]? = some (.row (some ⟨b, 0, none⟩) m c t k xs)) (hp : PartAt xs o' vs) : CellsAt w0 D H b (0 + o') vs := fun w hw j u hu => by
  rw [Nat.zero_add]
  exact CellAt.row i hi (hp j u hu) w hw
theorem CellAt.rowP0 (i : Nat) {b m c t k o' : Nat} {xs vs : List Value} (hi : H[i]? = some (.row (some ⟨b, 0, none⟩) m c t k xs)) (hp : PartAt xs o' vs) (hj : vs[0]? = some v) : CellAt w0 D H b (0 + o') v := CellAt.rowP i hi hp hj
theorem CellAt.ofInp0 {H : List Item} {b off : Nat} {vs : List Value} (h : InpAt w0 b off vs) (hj : vs[0]? = some v) : CellAt w0 (fun _ => False) H b off v := CellAt.inp (h 0 v hj)
/-- All of a row. -/
theorem CellsAt.rowAll (i : Nat) {b m c t k : Nat} {xs : List Value} (hi : H[i]? = some (.row (some ⟨b, 0, none⟩) m c t k xs)) : CellsAt w0 D H b 0 xs := fun w hw j u hu => by
  rw [Nat.zero_add]
  exact CellAt.row i hi hu w hw
section
variable {α : Type} {enc : α → List Value} {k : Nat}
theorem Lst.inp {w0 : World} {B : Nat} {A : Option Addr} {m : Nat} {xs : List α} (h : Lst enc k w0 B A m xs) {i : Nat} (hi : i < m) : ∃ b off x, A = some ⟨b, off, none⟩ ∧ xs[i]? = some x ∧ InpAt w0 b (off + i * k) (enc x) := by
  obtain ⟨b, off, e, _, x, hx, hc⟩ := h.get hi
  exact ⟨b, off, x, e, hx, hc⟩
theorem PartAt.flat (hk : ∀ x, (enc x).length = k) {xs : List α} {i : Nat} {x : α} (hx : xs[i]? = some x) : PartAt (flat enc xs) (i * k) (enc x) := fun j u hu => by
  obtain ⟨hi, rfl⟩ := List.getElem?_eq_some_iff.1 hx
  have hj : j < k := by rw [← hk xs[i]]; exact (List.getElem?_eq_some_iff.1 hu).1
  rw [flat_get hk xs i hi j hj]
  exact hu
end
/-! ### Slices that are read alone -/
theorem CellAt.vwP (i : Nat) {b off m k o' j : Nat} {xs vs : List Value} (hi : H[i]? = some (.vw (some ⟨b, off, none⟩) m k xs)) (hm : 0 < m) (hp : PartAt xs o' vs) (hj : vs[j]? = some v) : CellAt w0 D H b (off + o' + j) v := fun w hw => by
  have h := hw.holds _ (List.mem_of_getElem? hi)
  obtain ⟨b', off', e, _, hc⟩ := h.2.2 hm
  injection e with e
  injection e with e1 e2
  subst e1; subst e2
  rw [Nat.add_assoc]
  exact hc _ _ (hp j v hj)
theorem CellAt.vwP0 (i : Nat) {b off m k o' : Nat} {xs vs : List Value} (hi : H[i]? = some (.vw (some ⟨b, off, none⟩) m k xs)) (hm : 0 < m) (hp : PartAt xs o' vs) (hj : vs[0]? = some v) : CellAt w0 D H b (off + o') v := CellAt.vwP i hi hm hp hj
theorem CellsAt.vwP (i : Nat) {b off m k o' : Nat} {xs vs : List Value} (hi : H[i]? = some (.vw (some ⟨b, off, none⟩) m k xs)) (hm : 0 < m) (hp : PartAt xs o' vs) : CellsAt w0 D H b (off + o') vs := fun w hw j u hu =>
  CellAt.vwP i hi hm hp hu w hw
theorem CellsAt.vwAll (i : Nat) {b off m k : Nat} {xs : List Value} (hi : H[i]? = some (.vw (some ⟨b, off, none⟩) m k xs)) : CellsAt w0 D H b off xs := fun w hw j u hu => by
  have h := hw.holds _ (List.mem_of_getElem? hi)
  have hm : 0 < m := by
    rcases Nat.eq_zero_or_pos m with h0 | h0
    · subst h0
      have hl : xs.length = 0 * k := h.1
      rw [Nat.zero_mul] at hl
      have := List.eq_nil_of_length_eq_zero hl
      subst this
      simp at hu
    · exact h0
  obtain ⟨b', off', e, _, hc⟩ := h.2.2 hm
  injection e with e
  injection e with e1 e2
  subst e1; subst e2
  exact hc _ _ hu
/-- A view that is not empty lies somewhere. -/
theorem WC.vwAt {c : Code} (i : Nat) {A : Option Addr} {m k : Nat} {xs : List Value} (hi : H[i]? = some (.vw A m k xs)) (hm : 0 < m) (h : ∀ b off, A = some ⟨b, off, none⟩ → WC P w0 D n c Q τ H) : WC P w0 D n c Q τ H :=
  ⟨fun a w ha hw => by
    obtain ⟨b, off, e, _⟩ := (hw.holds _ (List.mem_of_getElem? hi)).2.2 hm
    exact (h b off e).go a w ha hw⟩
section
variable {α : Type} {enc : α → List Value} {k : Nat}
theorem Lst.vw {w : World} {A : Option Addr} {m : Nat} {xs : List α} (hk : ∀ x, (enc x).length = k) (h : Lst enc k w w.heap.size A m xs) : (Item.vw A m k (flat enc xs)).holds w := by
  refine ⟨by rw [flat_len hk, h.len], h.most, fun hm => ?_⟩
  obtain ⟨b, off, e, hlt, hc⟩ := h.at_ hm
  refine ⟨b, off, e, hlt, fun j u hu => ?_⟩
  have hj : j < xs.length * k := by rw [← flat_len hk]; exact (List.getElem?_eq_some_iff.1 hu).1
  have hk0 : 0 < k := by
    rcases Nat.eq_zero_or_pos k with h0 | h0
    · rw [h0, Nat.mul_zero] at hj; omega
    · exact h0
  have hi : j / k < xs.length := Nat.div_lt_of_lt_mul (by rw [Nat.mul_comm]; exact hj)
  have hr : j % k < k := Nat.mod_lt _ hk0
  have hjk : j / k * k + j % k = j := by rw [Nat.mul_comm]; exact Nat.div_add_mod j k
  have h2 := flat_get hk xs (j / k) hi (j % k) hr
  rw [hjk] at h2
  have := hc (j / k) hi (j % k) u (by rw [← h2]; exact hu)
  rw [Nat.add_assoc, hjk] at this
  exact this
theorem Lst.of_vw {w : World} {A : Option Addr} {m : Nat} {xs : List α} (hk : ∀ x, (enc x).length = k) (hk0 : 0 < k) (h : (Item.vw A m k (flat enc xs)).holds w) : Lst enc k w w.heap.size A m xs := by
  have hl : xs.length = m := by
    have := h.1
    rw [flat_len hk] at this
    exact Nat.eq_of_mul_eq_mul_right hk0 this
  refine ⟨hl, h.2.1, fun hm => ?_⟩
  obtain ⟨b, off, e, hlt, hc⟩ := h.2.2 hm
  refine ⟨b, off, e, hlt, fun i hi j u hu => ?_⟩
  have hj : j < k := by rw [← hk xs[i]]; exact (List.getElem?_eq_some_iff.1 hu).1
  have := hc (i * k + j) u (by rw [flat_get hk xs i hi j hj]; exact hu)
  rw [← Nat.add_assoc] at this
  exact this
theorem Sat.lst {w : World} (hw : Sat w0 D H w) (i : Nat) {A : Option Addr} {m : Nat} {xs : List α} (hk : ∀ x, (enc x).length = k) (hk0 : 0 < k) (hi : H[i]? = some (.vw A m k (flat enc xs))) : Lst enc k w w.heap.size A m xs :=
  Lst.of_vw hk hk0 (hw.holds _ (List.mem_of_getElem? hi))
theorem Sat.lstRow {w : World} (hw : Sat w0 D H w) (i : Nat) {A : Option Addr} {m c t : Nat} {xs : List α} (hk : ∀ x, (enc x).length = k) (hk0 : 0 < k) (hi : H[i]? = some (.row A m c t k (flat enc xs))) (hm : m ≤ maxLen) : Lst enc k w w.heap.size A m xs :=
  Lst.of_own hk hk0 (hw.holds _ (List.mem_of_getElem? hi)) hm
/-- What came in as a list is a view. -/
theorem Sat.addVw {w : World} (hw : Sat w0 (fun _ => False) H w) {A : Option Addr} {m : Nat} {xs : List α} (hk : ∀ x, (enc x).length = k) (h : Lst enc k w0 w0.heap.size A m xs) : Sat w0 (fun _ => False) (.vw A m k (flat enc xs) :: H) w := by
  have h0 := Lst.vw hk h
  have hv : (Item.vw A m k (flat enc xs)).holds w := h0.keep hw.size fun b hb => (hw.ext.below).block b (h0.lt hb)
  refine ⟨hw.ext, fun it hit => ?_, fun it hit hm b hb => ?_, List.Pairwise.cons (fun y hy => ?_) hw.apart⟩
  · rcases List.mem_cons.1 hit with rfl | hit
    · exact hv
    · exact hw.holds it hit
  · rcases List.mem_cons.1 hit with rfl | hit
    · cases hm
    · exact hw.own it hit hm b hb
  · cases hym : y.mine with
    | false => exact .inl ⟨rfl, hym⟩
    | true =>
      refine .inr fun b hb e => ?_
      have h1 := h0.lt hb
      rcases hw.own y hy hym b e with h2 | h2
      · omega
      · exact h2
theorem WC.addVw {c : Code} {A : Option Addr} {m : Nat} {xs : List α} (hk : ∀ x, (enc x).length = k) (h : Lst enc k w0 w0.heap.size A m xs) (hc : WC P w0 (fun _ => False) n c Q τ (.vw A m k (flat enc xs) :: H)) : WC P w0 (fun _ => False) n c Q τ H :=
  ⟨fun a w ha hw => hc.go a w ha (hw.addVw hk h)⟩
end
/-- A row is read alone from here on. -/
theorem Sat.rowVw {w : World} {i : Nat} {A : Option Addr} {m c t k : Nat} {xs : List Value} (hw : Sat w0 D H w) (hi : H[i]? = some (.row A m c t k xs)) (hm : m ≤ maxLen) : Sat w0 D (H.set i (.vw A m k xs)) w := by
  have hrow : w.ownsRow 0 t k (.slice A m c) m xs := hw.holds _ (List.mem_of_getElem? hi)
  have hv : (Item.vw A m k xs).holds w := by
    refine ⟨hrow.1, hm, fun h0 => ?_⟩
    obtain ⟨g, cap, hg, _, hlt⟩ := hrow.form h0
    injection hg with hg
    subst hg
    refine ⟨g, 0, rfl, hlt, fun j u hu => ?_⟩
    have := World.ownsRow.cells hrow (g := g) rfl j u hu
    rwa [addr_add] at this
  have hblk : ∀ b, (Item.vw A m k xs).blk = some b → (Item.row A m c t k xs).blk = some b := fun b hb => by
    cases m with
    | zero => simp [Item.blk] at hb
    | succ m => exact hb
  obtain ⟨hil, hie⟩ := List.getElem?_eq_some_iff.1 hi
  refine ⟨hw.ext, fun it hit => ?_, fun it hit hmm b hb => ?_, ?_⟩
  · obtain ⟨j, hj, rfl⟩ := List.getElem_of_mem hit
    rw [List.getElem_set]
    split
    · exact hv
    · exact hw.holds _ (List.getElem_mem _)
  · obtain ⟨j, hj, rfl⟩ := List.getElem_of_mem hit
    rw [List.getElem_set] at hb hmm
    split at hb
    · rename_i e
      rw [if_pos e] at hmm
      cases hmm
    · rename_i e
      rw [if_neg e] at hmm
      exact hw.own _ (List.getElem_mem _) hmm b hb
  · rw [List.pairwise_iff_getElem]
    intro p q hp hq hpq
    rw [List.getElem_set, List.getElem_set]
    have hp' : p < H.length := by simpa using hp
    have hq' : q < H.length := by simpa using hq
    have hap := List.pairwise_iff_getElem.1 hw.apart p q hp' hq' hpq
    split
    · rename_i e1
      subst e1
      rw [if_neg (by omega)]
      rw [hie] at hap
      exact .inr fun b hb => hap.ne rfl b (hblk b hb)
    · rename_i e1
      split
      · rename_i e2
        subst e2
        rw [hie] at hap
        exact .inr fun b hb e => hap.symm.ne rfl b (hblk b e) hb
      · exact hap
theorem WC.rowVw {c : Code} (i : Nat) {A : Option Addr} {m cap t k : Nat} {xs : List Value} (hi : H[i]? = some (.row A m cap t k xs)) (hm : m ≤ 4611686018427387904) (h : WC P w0 D n c Q τ (H.set i (.vw A m k xs))) : WC P w0 D n c Q τ H :=
  ⟨fun a w ha hw => h.go a w ha (hw.rowVw hi (by simp only [maxLen]; omega))⟩
theorem WL.rowVw (i : Nat) {A : Option Addr} {m cap t k : Nat} {xs : List Value} (hi : H[i]? = some (.row A m cap t k xs)) (hm : m ≤ 4611686018427387904) (h : WL P w0 D n ops Q l τ (H.set i (.vw A m k xs))) : WL P w0 D n ops Q l τ H :=
  ⟨fun a w ha hw => h.go a w ha (hw.rowVw hi (by simp only [maxLen]; omega))⟩
/-- An item turns into another one of the same block, memory as it is. -/
theorem Sat.same {w : World} {i : Nat} {x y : Item} (hw : Sat w0 D H w) (hi : H[i]? = some x) (hx : x.mine = true) (hy : y.holds w) (hb : ∀ b, y.blk = some b → x.blk = some b) : Sat w0 D (H.set i y) w := by
  obtain ⟨hil, hie⟩ := List.getElem?_eq_some_iff.1 hi
  refine ⟨hw.ext, fun it hit => ?_, fun it hit hmm b hbb => ?_, ?_⟩
  · obtain ⟨j, hj, rfl⟩ := List.getElem_of_mem hit
    rw [List.getElem_set]
    split
    · exact hy
    · exact hw.holds _ (List.getElem_mem _)
  · obtain ⟨j, hj, rfl⟩ := List.getElem_of_mem hit
    rw [List.getElem_set] at hbb hmm
    split at hbb
    · exact hw.own x (List.mem_of_getElem? hi) hx b (hb b hbb)
    · rename_i e
      rw [if_neg e] at hmm
      exact hw.own _ (List.getElem_mem _) hmm b hbb
  · rw [List.pairwise_iff_getElem]
    intro p q hp hq hpq
    rw [List.getElem_set, List.getElem_set]
    have hp' : p < H.length := by simpa using hp
    have hq' : q < H.length := by simpa using hq
    have hap := List.pairwise_iff_getElem.1 hw.apart p q hp' hq' hpq
    split
    · rename_i e1
      subst e1
      rw [if_neg (by omega)]
      rw [hie] at hap
      exact .inr fun b h => hap.ne hx b (hb b h)
    · rename_i e1
      split
      · rename_i e2
        subst e2
        rw [hie] at hap
        exact .inr fun b h e => hap.symm.ne hx b (hb b e) h
      · exact hap
theorem Sat.boxVw {w : World} (i : Nat) {b t n' k : Nat} {cs : List Value} (hw : Sat w0 D H w) (hi : H[i]? = some (.box b t cs)) (hl : cs.length = n' * k) (hn : n' ≤ 4611686018427387904) : Sat w0 D (H.set i (.vw (some ⟨b, 0, none⟩) n' k cs)) w := by
  have h : w.heap[b]? = some (.cells cs.toArray t (0, 0)) := hw.holds _ (List.mem_of_getElem? hi)
  refine hw.same hi rfl ⟨hl, by simp only [maxLen]; omega, fun _ => ⟨b, 0, rfl, Item.holds.lt (it := .box b t cs) h rfl, fun j u hu => ?_⟩⟩ fun b' hb' => ?_
  · rw [cell_of_row w b _ cs.toArray t (0, 0) h, Nat.zero_add]
    simpa using hu
  · cases n' with
    | zero => simp [Item.blk] at hb'
    | succ n' => exact hb'
theorem Sat.boxRow {w : World} (i : Nat) {b t n' k : Nat} {cs : List Value} (hw : Sat w0 D H w) (hi : H[i]? = some (.box b t cs)) (hl : cs.length = n' * k) (hn : n' ≤ 4611686018427387904) : Sat w0 D (H.set i (.row (some ⟨b, 0, none⟩) n' n' t k cs)) w := by
  have h : w.heap[b]? = some (.cells cs.toArray t (0, 0)) := hw.holds _ (List.mem_of_getElem? hi)
  refine hw.same hi rfl ⟨hl, .inr ⟨b, n', cs.toArray, rfl, Nat.zero_le _, h, Nat.le_refl _, by simp only [maxLen]; omega, by simp [hl], ?_⟩⟩ fun b' hb' => hb'
  rw [← hl]
  exact List.take_length
end
end Go.Proofs.Ythbhjnmkbmmcnaa
