/- The operations that make or write memory, and calls, one law each, over symbolic states. Of whatever program. -/
import Derived.Test.YthbhjnmkbmmcnaaOps
import Derived.Maps.AppendAt
import Derived.Laws.Tables
namespace Go.Proofs.Ythbhjnmkbmmcnaa
open Go.RowKit Go.IntWalk
set_option linter.unusedVariables false
set_option linter.unusedSectionVars false

theorem over_eq : ∀ (cs : List Value) (o : Nat) (vs : List Value), o + vs.length ≤ cs.length → over cs o vs = cs.take o ++ vs ++ cs.drop (o + vs.length)
  | [], o, vs, h => by
    have h' : o + vs.length ≤ 0 := h
    have h1 : vs = [] := List.eq_nil_of_length_eq_zero (by omega)
    subst h1; simp [over]
  | c :: r, 0, [], h => by simp [over]
  | c :: r, 0, v :: vs, h => by
    simp only [over]
    rw [over_eq r 0 vs (by simp at h ⊢; omega)]
    simp
  | c :: r, o + 1, vs, h => by
    have : over (c :: r) (o + 1) vs = c :: over r o vs := by cases vs <;> rfl
    rw [this, over_eq r o vs (by simp at h ⊢; omega)]
    simp only [List.take_succ_cons, List.cons_append, show o + 1 + vs.length = (o + vs.length) + 1 from by omega, List.drop_succ_cons]
theorem over_length (cs : List Value) (o : Nat) (vs : List Value) (h : o + vs.length ≤ cs.length) : (over cs o vs).length = cs.length := by
  rw [over_eq cs o vs h]; simp; omega

section
variable {P : Program} {w0 : World} {D : Nat → Prop} {n : Nat} [Dfr] {Q : Exit → Act → World → Prop} {τ : Tm} {H : List Item} {ops : Array Oper} {o : Oper} {l : List Oper} {v v' : Value} {K : Tm → List Item → Prop}
omit [Dfr] in
/-- A list with another item in a place. -/
inductive SetAt : List Item → Nat → Item → List Item → Prop
  | zero {x y : Item} {r : List Item} : SetAt (x :: r) 0 y (y :: r)
  | succ {x y : Item} {r r' : List Item} {i : Nat} (h : SetAt r i y r') : SetAt (x :: r) (i + 1) y (x :: r')
theorem SetAt.eq {H H' : List Item} {i : Nat} {y : Item} (h : SetAt H i y H') : H.set i y = H' := by
  induction h with
  | zero => rfl
  | succ h ih => rw [List.set_cons_succ, ih]
omit [Dfr] in
/-- Cells with others in a part. -/
inductive OverAt : List Value → Nat → List Value → List Value → Prop
  | nil {r : List Value} : OverAt r 0 [] r
  | here {c v : Value} {r vs r' : List Value} (h : OverAt r 0 vs r') : OverAt (c :: r) 0 (v :: vs) (v :: r')
  | skip {c : Value} {r vs r' : List Value} {o : Nat} (h : OverAt r o vs r') : OverAt (c :: r) (o + 1) vs (c :: r')
theorem OverAt.eq {cs cs' vs : List Value} {o : Nat} (h : OverAt cs o vs cs') : over cs o vs = cs' := by
  induction h with
  | nil => exact over_nil _
  | here h ih => simp only [over]; rw [ih]
  | skip h ih =>
    rename_i c r vs r' o
    have : over (c :: r) (o + 1) vs = c :: over r o vs := by cases vs <;> rfl
    rw [this, ih]
theorem OverAt.fits {cs cs' vs : List Value} {o : Nat} (h : OverAt cs o vs cs') : o + vs.length ≤ cs.length := by
  induction h with
  | nil => simp
  | here h ih => simp at ih ⊢; omega
  | skip h ih => simp at ih ⊢; omega
omit [Dfr] in
/-- The cells of values, one behind the other. -/
inductive CellsAre : List Value → List Value → Prop
  | nil : CellsAre [] []
  | agg1 {cs : List Value} : CellsAre [.agg cs.toArray] cs
  | agg {cs : List Value} {r rs : List Value} (h : CellsAre r rs) : CellsAre (.agg cs.toArray :: r) (cs ++ rs)
  | one {v : Value} {r rs : List Value} (h1 : v.oneCell' = true) (h : CellsAre r rs) : CellsAre (v :: r) (v :: rs)
theorem cells_list (v : Value) : v.cells = v.cells.toList.toArray := by simp
/-- A new variable that holds v. -/
theorem StepTo.box' {d : Nat} {T : TypeId} {x : Operand} {cs : List Value} (ho : o.op = .box T x) (hdst : o.dst = some d) (hd : Nat.blt d n = true) (hx : evl τ x = some v) (hc : v.cells.toList = cs)
    (hK : ∀ b, K ((d, .pointer (some ⟨b, 0, none⟩)) :: τ) (.box b T cs :: H)) : StepTo P w0 D n o τ H K := ⟨fun Kw Q hk a w ha hw => by
  subst hc
  have hr : (execOp a.eval o).run P w = .ok (.value (.pointer (some ⟨w.heap.size, 0, none⟩))) (w.alloc (.cells v.cells.toList.toArray T)) := by
    simp only [execOp, ho, ha.ev hx]
    simp [Instr.box, newVar, newRow]
  unfold Oper.wp
  rw [hr, Oper.upon_value, hdst]
  exact hk _ _ (hK w.heap.size) _ _ (ha.put (some d) _ hd) (hw.alloc T _)⟩
theorem StepTo.boxA {d : Nat} {T : TypeId} {x : Operand} {cs : List Value} (ho : o.op = .box T x) (hdst : o.dst = some d) (hd : Nat.blt d n = true) (hx : evl τ x = some (.agg cs.toArray))
    (hK : ∀ b, K ((d, .pointer (some ⟨b, 0, none⟩)) :: τ) (.box b T cs :: H)) : StepTo P w0 D n o τ H K := StepTo.box' ho hdst hd hx rfl hK
theorem StepTo.box1 {d : Nat} {T : TypeId} {x : Operand} (ho : o.op = .box T x) (hdst : o.dst = some d) (hd : Nat.blt d n = true) (hx : evl τ x = some v) (h1 : v.oneCell' = true)
    (hK : ∀ b, K ((d, .pointer (some ⟨b, 0, none⟩)) :: τ) (.box b T [v] :: H)) : StepTo P w0 D n o τ H K := StepTo.box' ho hdst hd hx (by cases v <;> first | rfl | cases h1) hK
/-- A new variable that holds the zero value. -/
theorem StepTo.alloc' {d : Nat} {T : TypeId} {cs : List Value} {z : Value} (ho : o.op = .alloc T) (hdst : o.dst = some d) (hd : Nat.blt d n = true) (hz : (P.info? T).bind (·.zero) = some z) (hc : z.cells.toList = cs)
    (hK : ∀ b, K ((d, .pointer (some ⟨b, 0, none⟩)) :: τ) (.box b T cs :: H)) : StepTo P w0 D n o τ H K := ⟨fun Kw Q hk a w ha hw => by
  subst hc
  obtain ⟨i, hi, hz'⟩ : ∃ i, P.info? T = some i ∧ i.zero = some z := by
    cases hh : P.info? T with
    | none => rw [hh] at hz; cases hz
    | some i => rw [hh] at hz; exact ⟨i, rfl, hz⟩
  have hr : (execOp a.eval o).run P w = .ok (.value (.pointer (some ⟨w.heap.size, 0, none⟩))) (w.alloc (.cells z.cells.toList.toArray T)) := by
    simp only [execOp, ho]
    simp [Instr.alloc, zeroValue, typeInfo, hi, hz', newVar, newRow]
  unfold Oper.wp
  rw [hr, Oper.upon_value, hdst]
  exact hk _ _ (hK w.heap.size) _ _ (ha.put (some d) _ hd) (hw.alloc T _)⟩
theorem StepTo.allocA {d : Nat} {T : TypeId} {cs : List Value} (ho : o.op = .alloc T) (hdst : o.dst = some d) (hd : Nat.blt d n = true) (hz : (P.info? T).bind (·.zero) = some (.agg cs.toArray))
    (hK : ∀ b, K ((d, .pointer (some ⟨b, 0, none⟩)) :: τ) (.box b T cs :: H)) : StepTo P w0 D n o τ H K := StepTo.alloc' ho hdst hd hz rfl hK
theorem StepTo.alloc1 {d : Nat} {T : TypeId} (ho : o.op = .alloc T) (hdst : o.dst = some d) (hd : Nat.blt d n = true) (hz : (P.info? T).bind (·.zero) = some v) (h1 : v.oneCell' = true)
    (hK : ∀ b, K ((d, .pointer (some ⟨b, 0, none⟩)) :: τ) (.box b T [v] :: H)) : StepTo P w0 D n o τ H K := StepTo.alloc' ho hdst hd hz (by cases v <;> first | rfl | cases h1) hK
theorem setRow_eq_os (w : World) (g : Nat) (cs : Array Value) : (w.setRow g cs).os = w.os ∧ (w.setRow g cs).tape = w.tape ∧ (w.setRow g cs).output = w.output := ⟨rfl, rfl, rfl⟩
theorem Sat.write {w : World} {i b t off : Nat} {cs vs : List Value} (h : Sat w0 D H w) (hi : H[i]? = some (.box b t cs)) (hf : off + vs.length ≤ cs.length) (h1 : vs.all Value.oneCell' = true) :
    (storeCells ⟨b, off, none⟩ vs).run P w = .ok () (w.setRow b (over cs off vs).toArray) ∧ Sat w0 D (H.set i (.box b t (over cs off vs))) (w.setRow b (over cs off vs).toArray) := by
  have hb := h.holds _ (List.mem_of_getElem? hi)
  have hr := run_storeCells_at P b off t vs 0 cs.toArray w hb (by simpa using hf) (by simpa using h1)
  refine ⟨?_, ?_⟩
  · rw [over_eq cs off vs hf]
    simpa using hr
  · exact h.turn hi rfl (fun b' hb' => .inl hb') (setRow_heap w b _ _ t _ hb) (fun k hk hne => setRow_other w b k _ (fun e => hne (by rw [e]; rfl))) (by rw [setRow_size]; exact Nat.le_refl _) rfl rfl rfl
/-- A store into a variable (or a part of one). -/
theorem StepTo.store' {T : TypeId} {x y : Operand} {b off t m : Nat} {cs vs : List Value} (i : Nat) (ho : o.op = .store T x y) (hdn : o.dst = none) (hx : evl τ x = some (.pointer (some ⟨b, off, none⟩))) (hy : evl τ y = some v)
    (hv : v.cells.toList = vs) (hs : (P.info? T).map (·.size) = some m) (hl : vs.length = m) (h1 : vs.all Value.oneCell' = true) (hi : H[i]? = some (.box b t cs)) (hf : Nat.ble (off + vs.length) cs.length = true) {H2 : List Item} (hH : H.set i (.box b t (over cs off vs)) = H2)
    (hK : K τ H2) : StepTo P w0 D n o τ H K := ⟨fun Kw Q hk a w ha hw => by
  subst hH
  obtain ⟨hr, hsat⟩ := hw.write (P := P) hi (Nat.le_of_ble_eq_true hf) h1
  have hsz : v.cells.size = m := by rw [← hl, ← hv]; simp
  have hrun : (execOp a.eval o).run P w = .ok .skip (w.setRow b (over cs off vs).toArray) := by
    simp only [execOp, ho, ha.ev hx, ha.ev hy]
    simp [Instr.storeAt, Instr.sureAddr, storeVar, run_sizeOf hs, hsz, hv, hr]
  unfold Oper.wp
  rw [hrun]
  refine hk _ _ hK _ _ ?_ hsat
  rw [hdn]
  exact ha⟩
theorem StepTo.storeA {T : TypeId} {x y : Operand} {b off t m : Nat} {cs vs : List Value} {H2 : List Item} (i : Nat) (ho : o.op = .store T x y) (hdn : o.dst = none) (hx : evl τ x = some (.pointer (some ⟨b, off, none⟩))) (hy : evl τ y = some (.agg vs.toArray))
    (hs : (P.info? T).map (·.size) = some m) (hl : vs.length = m) (h1 : vs.all Value.oneCell' = true) (hi : H[i]? = some (.box b t cs)) {cs' : List Value} (hf : OverAt cs off vs cs')
    (hH : SetAt H i (.box b t cs') H2) (hK : K τ H2) : StepTo P w0 D n o τ H K := StepTo.store' (vs := vs) i ho hdn hx hy (by simp [Value.cells]) hs hl h1 hi (Nat.ble_eq_true_of_le hf.fits) (by rw [hf.eq]; exact hH.eq) hK
theorem StepTo.store1 {T : TypeId} {x y : Operand} {b off t : Nat} {cs : List Value} {H2 : List Item} (i : Nat) (ho : o.op = .store T x y) (hdn : o.dst = none) (hx : evl τ x = some (.pointer (some ⟨b, off, none⟩))) (hy : evl τ y = some v)
    (hs : (P.info? T).map (·.size) = some 1) (h1 : v.oneCell' = true) (hi : H[i]? = some (.box b t cs)) {cs' : List Value} (hf : OverAt cs off [v] cs')
    (hH : SetAt H i (.box b t cs') H2) (hK : K τ H2) : StepTo P w0 D n o τ H K :=
  StepTo.store' (vs := [v]) i ho hdn hx hy (by cases v <;> first | rfl | cases h1) hs rfl (by simp [h1]) hi (Nat.ble_eq_true_of_le hf.fits) (by rw [hf.eq]; exact hH.eq) hK
/-- A store of one cell into a row. -/
theorem StepTo.storeRow {T : TypeId} {x y : Operand} {b off t k m c : Nat} {xs : List Value} (i : Nat) (ho : o.op = .store T x y) (hdn : o.dst = none) (hx : evl τ x = some (.pointer (some ⟨b, off, none⟩))) (hy : evl τ y = some v)
    (hv : v.cells.toList = [v]) (hs : (P.info? T).map (·.size) = some 1) (h1 : v.oneCell' = true) (hi : H[i]? = some (.row (some ⟨b, 0, none⟩) m c t k xs)) (hf : off < xs.length)
    {H2 : List Item} (hH : SetAt H i (.row (some ⟨b, 0, none⟩) m c t k (xs.set off v)) H2) (hK : K τ H2) : StepTo P w0 D n o τ H K := ⟨fun Kw Q hk a w ha hw => by
  obtain rfl := hH.eq
  have hrow := hw.holds _ (List.mem_of_getElem? hi)
  obtain ⟨hst, hgr⟩ := World.ownsRow.stored hrow off v
  have hcell := World.ownsRow.cells hrow (g := b) rfl off xs[off] (List.getElem?_eq_getElem hf)
  rw [addr_add, Nat.zero_add] at hcell
  have hfr : w.frozen? ⟨b, off, none⟩ = false := by
    rcases hrow.2 with ⟨h', _⟩ | ⟨g', cap', cur, h', hb, hg, r⟩
    · simp at h'
    · simp only [Value.slice.injEq, Option.some.injEq, Addr.mk.injEq, and_true, true_and] at h'
      obtain ⟨rfl, _⟩ := h'
      simp [World.frozen?, hg]
  have hsz : v.cells.size = 1 := by rw [← Array.length_toList, hv]; rfl
  have hrun : (execOp a.eval o).run P w = .ok .skip (w.setCell ⟨b, off, none⟩ v) := by
    simp only [execOp, ho, ha.ev hx, ha.ev hy]
    have hst' : (Go.store (⟨b, off, none⟩ : Addr) v).run P w = Result.ok () (w.setCell ⟨b, off, none⟩ v) := by
      cases v <;> first | (simp [Value.oneCell'] at h1; done) | simp only [Go.store, Sem.run, hcell, hfr, Bool.false_eq_true, if_false]
    simp [Instr.storeAt, Instr.sureAddr, storeVar, run_sizeOf hs, hsz, hv, storeCells, addr_add, hst']
  unfold Oper.wp
  rw [hrun]
  refine hk _ _ hK _ _ (by rw [hdn]; exact ha) ?_
  exact hw.turn hi rfl (fun b' hb' => .inl hb') hst (fun k hk hne => hgr.block k hk (fun e => hne (by rw [e]; rfl))) hgr.size hgr.os hgr.tape hgr.output⟩

/-! ### Calls -/
omit [Dfr] in
def evls (τ : Tm) : List Operand → Option (List Value)
  | [] => some []
  | x :: r => match evl τ x, evls τ r with
    | some v, some vs => some (v :: vs)
    | _, _ => none
theorem evls_eq {a : Act} (ha : Has n τ a) : ∀ (xs : List Operand) (vs : List Value), evls τ xs = some vs → xs.map a.eval = vs
  | [], vs, h => by simp [evls] at h; simp [h]
  | x :: r, vs, h => by
    simp only [evls] at h
    cases hx : evl τ x with
    | none => rw [hx] at h; simp at h
    | some v =>
      cases hr : evls τ r with
      | none => rw [hx, hr] at h; simp at h
      | some us =>
        rw [hx, hr] at h
        simp only [Option.some.injEq] at h
        subst h
        rw [List.map_cons, ha.ev hx, evls_eq ha r us hr]
omit [Dfr] in
/-- A function of the program that has a body. -/
def callsB (P : Program) (f : FuncId) : Bool :=
  match P.funcs[f]? with
  | some fn => !(fn.name == "runtime.NumGoroutine") && fn.body.isSome
  | none => false
theorem run_callFunc {f : FuncId} (h : callsB P f = true) (args : Array Value) (w : World) : (callFunc f args).run P w = .ok (.enter f args) w := by
  unfold callsB at h
  cases hf : P.funcs[f]? with
  | none => rw [hf] at h; cases h
  | some fn =>
    rw [hf] at h
    simp only [Bool.and_eq_true, Bool.not_eq_true', Option.isSome_iff_exists] at h
    obtain ⟨h1, c, h2⟩ := h
    have h1' : ¬ fn.name = "runtime.NumGoroutine" := by simpa using h1
    simp [callFunc, program, Sem.run, hf, h1', h2]
omit [Dfr] in
/-- What is handed to a function value. -/
def funV (args : List Value) : Option Value → Option (FuncId × List Value)
  | some (.func (.func f) first captured) => some (f, first.toList ++ args ++ captured.toList)
  | _ => none
theorem funV_some {vs us : List Value} {ov : Option Value} {f : FuncId} (h : funV vs ov = some (f, us)) : ∃ first captured, ov = some (.func (.func f) first captured) ∧ us = first.toList ++ vs ++ captured.toList := by
  unfold funV at h
  split at h
  · simp only [Option.some.injEq, Prod.mk.injEq] at h
    obtain ⟨rfl, rfl⟩ := h
    exact ⟨_, _, rfl, rfl⟩
  · cases h
/-- A call: its contract gives the value and the items behind it. -/
theorem StepTo.call {F : Operand} {args : Array Operand} {tys : Array TypeId} {vs us : List Value} {f : FuncId} (ho : o.op = .call { callee := .value F, args := args, argTypes := tys }) {d : Nat} (hdst : o.dst = some d) (hd : Nat.blt d n = true)
    (ha : evls τ args.toList = some vs) (hF : funV vs (evl τ F) = some (f, us)) (hB : callsB P f = true)
    (h : ∀ w, Sat w0 D H w → Calls P f us.toArray w fun e w' => ∃ v H', e = .returned v ∧ Sat w0 D H' w' ∧ K ((d, v) :: τ) H') : StepTo P w0 D n o τ H K := ⟨fun Kw Q hk a w hA hw => by
  obtain ⟨first, captured, hfv, rfl⟩ := funV_some hF
  have hrun : (execOp a.eval o).run P w = .ok (.enter f (first.toList ++ vs ++ captured.toList).toArray) w := by
    have hm : args.map a.eval = vs.toArray := by
      rw [← evls_eq hA _ _ ha]; exact Array.ext' (by simp)
    have he := hA.ev hfv
    simp [execOp, ho, resolve, he, hm, Deferred.ofValue, invoke, run_callFunc hB]
  unfold Oper.wp
  rw [hrun]
  exact Calls.mono (h w hw) fun e w' ⟨v, H', he, hs, hK⟩ => by
    subst he
    rw [hdst]
    exact hk _ _ hK _ _ (hA.put (some d) _ hd) hs⟩
/-- A call that hands back a known value and leaves alone what was there. -/
theorem StepTo.callV {F : Operand} {args : Array Operand} {tys : Array TypeId} {vs us : List Value} {f : FuncId} (ho : o.op = .call { callee := .value F, args := args, argTypes := tys }) {d : Nat} (hdst : o.dst = some d) (hd : Nat.blt d n = true)
    (ha : evls τ args.toList = some vs) (hF : funV vs (evl τ F) = some (f, us)) (hB : callsB P f = true)
    (h : ∀ w, Sat w0 D H w → Calls P f us.toArray w fun e w' => e = .returned v ∧ Below w.heap.size w w') (hK : K ((d, v) :: τ) H) : StepTo P w0 D n o τ H K :=
  StepTo.call ho hdst hd ha hF hB fun w hw => (h w hw).mono fun e w' ⟨he, hb⟩ => ⟨v, H, he, hw.below hb, hK⟩
omit [Dfr] in
/-- What a call has made: items in new blocks, one apart from the other; what was there is as it was. What may be read alone may lie in blocks of V, too. -/
def New (V : Nat → Prop) (H : List Item) (w w' : World) : Prop :=
  Below w.heap.size w w' ∧ (∀ it ∈ H, it.holds w' ∧ ∀ b, it.blk = some b → w.heap.size ≤ b ∨ (it.mine = false ∧ V b)) ∧ H.Pairwise Item.apart
omit [Dfr] in
/-- The blocks of some items that are read alone. -/
def Vs (H : List Item) (idx : List Nat) (b : Nat) : Prop := ∃ i ∈ idx, ∃ it, H[i]? = some it ∧ it.mine = false ∧ it.blk = some b
theorem Sat.new {w w' : World} {N : List Item} {idx : List Nat} (h : Sat w0 D H w) (hn : New (Vs H idx) N w w') : Sat w0 D (N ++ H) w' := by
  obtain ⟨hb, hN, hp⟩ := hn
  have h' := h.below hb
  refine ⟨h'.ext, fun it hit => ?_, fun it hit hm b hbk => ?_, ?_⟩
  · rcases List.mem_append.1 hit with hit | hit
    · exact (hN it hit).1
    · exact h'.holds it hit
  · rcases List.mem_append.1 hit with hit | hit
    · rcases (hN it hit).2 b hbk with h1 | ⟨h1, _⟩
      · exact .inl (Nat.le_trans h.size h1)
      · rw [hm] at h1; cases h1
    · exact h.own it hit hm b hbk
  · refine List.pairwise_append.2 ⟨hp, h'.apart, fun x hx y hy => ?_⟩
    by_cases hxm : x.mine = false ∧ y.mine = false
    · exact .inl hxm
    · refine .inr fun b hbx hby => ?_
      have h2 := (h.holds y hy).lt hby
      rcases (hN x hx).2 b hbx with h1 | ⟨h1, i, _, it, hi, him, hib⟩
      · omega
      · have hym : y.mine = true := by
          cases hy' : y.mine with
          | true => rfl
          | false => exact absurd ⟨h1, hy'⟩ hxm
        obtain ⟨jy, hjy, rfl⟩ := List.getElem_of_mem hy
        obtain ⟨hil, hie⟩ := List.getElem?_eq_some_iff.1 hi
        have hij : i ≠ jy := fun e => by subst e; rw [hie] at hym; rw [him] at hym; cases hym
        have hap : (H[jy]).apart it := by
          rw [← hie]
          rcases Nat.lt_or_ge i jy with hlt | hge
          · exact (List.pairwise_iff_getElem.1 h.apart i jy hil hjy hlt).symm
          · exact List.pairwise_iff_getElem.1 h.apart jy i hjy hil (by omega)
        exact hap.ne hym b hby hib
/-- A call whose contract tells what it has made. -/
theorem StepTo.callN {F : Operand} {args : Array Operand} {tys : Array TypeId} {vs us : List Value} {f : FuncId} {R : Value → List Item → Prop} (idx : List Nat) (ho : o.op = .call { callee := .value F, args := args, argTypes := tys }) {d : Nat} (hdst : o.dst = some d) (hd : Nat.blt d n = true)
    (ha : evls τ args.toList = some vs) (hF : funV vs (evl τ F) = some (f, us)) (hB : callsB P f = true)
    (h : ∀ w, Sat w0 D H w → Calls P f us.toArray w fun e w' => ∃ v N, e = .returned v ∧ R v N ∧ New (Vs H idx) N w w') (hK : ∀ v N, R v N → K ((d, v) :: τ) (N ++ H)) : StepTo P w0 D n o τ H K :=
  StepTo.call ho hdst hd ha hF hB fun w hw => (h w hw).mono fun e w' ⟨v, N, he, hr, hn⟩ => ⟨v, N ++ H, he, hw.new hn, hK v N hr⟩
omit [Dfr] in
/-- What a call has made that was handed memory to write, the blocks of D'. -/
def Mod (D' : Nat → Prop) (N : List Item) (w w' : World) : Prop :=
  Ext D' w w' ∧ (∀ it ∈ N, it.holds w' ∧ ∀ b, it.blk = some b → w.heap.size ≤ b ∨ D' b) ∧ N.Pairwise Item.apart
theorem Sat.mod {w w' : World} {N R : List Item} {D' : Nat → Prop} {rest : List Nat} (h : Sat w0 D H w) (hr : Pick rest H R) (hD : ∀ b, D' b → ∃ i it, i ∉ rest ∧ H[i]? = some it ∧ it.mine = true ∧ it.blk = some b) (hn : Mod D' N w w') : Sat w0 D (N ++ R) w' := by
  obtain ⟨hx, hN, hp⟩ := hn
  have hR := h.pick hr
  have hne : ∀ it ∈ R, ∀ b, D' b → it.blk ≠ some b := fun it hit b hb e => by
    obtain ⟨i, iu, hi, hiu, hm, hbk⟩ := hD b hb
    obtain ⟨jr, hjr, rfl⟩ := List.getElem_of_mem hit
    have hlen : rest.length = R.length := by simpa using congrArg List.length hr.2
    have hj : H[rest[jr]'(by omega)]? = some R[jr] := by
      have := congrArg (fun l => l[jr]?) hr.2
      simp only [List.getElem?_map] at this
      rw [List.getElem?_eq_getElem (by omega), List.getElem?_eq_getElem hjr] at this
      simpa using this
    have hij : i ≠ rest[jr]'(by omega) := fun e => hi (by rw [e]; exact List.getElem_mem _)
    obtain ⟨l1, e1⟩ := List.getElem?_eq_some_iff.1 hiu
    obtain ⟨l2, e2⟩ := List.getElem?_eq_some_iff.1 hj
    have hap : iu.apart R[jr] := by
      rw [← e1, ← e2]
      rcases Nat.lt_or_ge i (rest[jr]'(by omega)) with hlt | hge
      · exact List.pairwise_iff_getElem.1 h.apart _ _ l1 l2 hlt
      · exact (List.pairwise_iff_getElem.1 h.apart _ _ l2 l1 (by omega)).symm
    exact hap.ne hm b hbk e
  have hkeep : ∀ it ∈ R, it.holds w' := fun it hit => (hR.holds it hit).keep hx.size fun b hb => hx.block b ((hR.holds it hit).lt hb) (fun hd => hne it hit b hd hb)
  refine ⟨⟨hx.os.trans h.ext.os, hx.tape.trans h.ext.tape, hx.output.trans h.ext.output, Nat.le_trans h.size hx.size, fun k hk hd => (hx.block k (Nat.lt_of_lt_of_le hk h.size) fun hd' => ?_).trans (h.ext.block k hk hd)⟩, fun it hit => ?_, fun it hit hm b hb => ?_, ?_⟩
  · obtain ⟨i, iu, hi, hiu, hm, hbk⟩ := hD k hd'
    rcases h.own iu (List.mem_of_getElem? hiu) hm k hbk with h1 | h1
    · omega
    · exact hd h1
  · rcases List.mem_append.1 hit with hit | hit
    · exact (hN it hit).1
    · exact hkeep it hit
  · rcases List.mem_append.1 hit with hit | hit
    · rcases (hN it hit).2 b hb with h1 | h1
      · exact .inl (Nat.le_trans h.size h1)
      · obtain ⟨i, iu, hi, hiu, hm', hbk⟩ := hD b h1
        exact h.own iu (List.mem_of_getElem? hiu) hm' b hbk
    · exact hR.own it hit hm b hb
  · refine List.pairwise_append.2 ⟨hp, hR.apart, fun x hx' y hy => .inr fun b hbx hby => ?_⟩
    rcases (hN x hx').2 b hbx with h1 | h1
    · have := (hR.holds y hy).lt hby
      omega
    · exact hne y hy b h1 hby
omit [Dfr] in
/-- Some of the items, by their places. -/
def sel (H : List Item) : List Nat → List Item
  | [] => []
  | i :: r => match H[i]? with | some x => x :: sel H r | none => sel H r
/-- A call that is handed memory to write. -/
theorem StepTo.callM {F : Operand} {args : Array Operand} {tys : Array TypeId} {vs us : List Value} {f : FuncId} {R : Value → List Item → Prop} (D' : Nat → Prop) (rest : List Nat) (hr : Pick rest H (sel H rest))
    (hD : ∀ b, D' b → ∃ i it, i ∉ rest ∧ H[i]? = some it ∧ it.mine = true ∧ it.blk = some b) (ho : o.op = .call { callee := .value F, args := args, argTypes := tys }) {d : Nat} (hdst : o.dst = some d) (hd : Nat.blt d n = true)
    (ha : evls τ args.toList = some vs) (hF : funV vs (evl τ F) = some (f, us)) (hB : callsB P f = true)
    (h : ∀ w, Sat w0 D H w → Calls P f us.toArray w fun e w' => ∃ v N, e = .returned v ∧ R v N ∧ Mod D' N w w') (hK : ∀ v N, R v N → K ((d, v) :: τ) (N ++ sel H rest)) : StepTo P w0 D n o τ H K :=
  StepTo.call ho hdst hd ha hF hB fun w hw => (h w hw).mono fun e w' ⟨v, N, he, hrv, hn⟩ => ⟨v, N ++ sel H rest, he, hw.mod hr hD hn, hK v N hrv⟩
theorem Sat.pair {w : World} (h : Sat w0 D H w) {i j : Nat} {x y : Item} (hi : H[i]? = some x) (hj : H[j]? = some y) (hij : i ≠ j) : x.apart y := by
  obtain ⟨l1, e1⟩ := List.getElem?_eq_some_iff.1 hi
  obtain ⟨l2, e2⟩ := List.getElem?_eq_some_iff.1 hj
  rw [← e1, ← e2]
  rcases Nat.lt_or_ge i j with hlt | hge
  · exact List.pairwise_iff_getElem.1 h.apart _ _ l1 l2 hlt
  · exact (List.pairwise_iff_getElem.1 h.apart _ _ l2 l1 (by omega)).symm
/-- What stands at the end of a function that was handed nothing to write. -/
theorem Sat.toNew {w w' : World} {N : List Item} {V : Nat → Prop} (h : Sat w (fun _ => False) N w') (hv : ∀ it ∈ N, it.mine = false → ∀ b, it.blk = some b → w.heap.size ≤ b ∨ V b) : New V N w w' :=
  ⟨h.ext.below, fun it hit => ⟨h.holds it hit, fun b hb => by
    cases hm : it.mine with
    | true => exact .inl ((h.own it hit hm b hb).resolve_right id)
    | false => exact (hv it hit hm b hb).imp id fun h => ⟨rfl, h⟩⟩, h.apart⟩
theorem Sat.toMod {w w' : World} {N : List Item} (h : Sat w D N w') (hv : ∀ it ∈ N, it.mine = true) : Mod D N w w' :=
  ⟨h.ext, fun it hit => ⟨h.holds it hit, fun b hb => h.own it hit (hv it hit) b hb⟩, h.apart⟩
omit [Dfr] in
def Item.asVw : Item → Item
  | .row A m _ _ k xs => .vw A m k xs
  | it => it
omit [Dfr] in
def Item.short : Item → Prop
  | .row _ m _ _ _ _ => m ≤ 4611686018427387904
  | .vw .. => True
  | .box .. => False
  | .fz .. => False
  | .obj .. => False
theorem Item.asVw_holds {w : World} {it : Item} (h : it.holds w) (hs : it.short) : it.asVw.holds w := by
  cases it with
  | box => exact h
  | obj => exact h
  | fz => exact h
  | vw => exact h
  | row A m c t k xs =>
    have hs' : m ≤ 4611686018427387904 := hs
    have h' : w.ownsRow 0 t k (.slice A m c) m xs := h
    refine ⟨h'.1, by simp only [maxLen]; omega, fun h0 => ?_⟩
    obtain ⟨g, cap, hg, _, hlt⟩ := h'.form h0
    injection hg with hg
    subst hg
    refine ⟨g, 0, rfl, hlt, fun j u hu => ?_⟩
    have := World.ownsRow.cells h' (g := g) rfl j u hu
    rwa [addr_add] at this
theorem Item.asVw_blk {it : Item} {b : Nat} (h : it.asVw.blk = some b) : it.blk = some b := by
  cases it with
  | box => exact h
  | obj => exact h
  | fz => exact h
  | vw => exact h
  | row A m c t k xs =>
    cases m with
    | zero => simp [Item.asVw, Item.blk] at h
    | succ m => exact h
theorem Item.asVw_mine {it : Item} (hs : it.short) : it.asVw.mine = false := by cases it <;> first | rfl | cases hs
/-- All that was made is handed back to be read. -/
theorem Sat.toNewVw {w w' : World} {N N' : List Item} {V : Nat → Prop} (h : Sat w (fun _ => False) N w') (hs : ∀ it ∈ N, it.short) (hv : ∀ it ∈ N, it.mine = false → ∀ b, it.blk = some b → w.heap.size ≤ b ∨ V b) (he : N.map Item.asVw = N') : New V N' w w' := by
  subst he
  refine ⟨h.ext.below, fun it hit => ?_, ?_⟩
  · obtain ⟨iu, hiu, rfl⟩ := List.mem_map.1 hit
    refine ⟨Item.asVw_holds (h.holds iu hiu) (hs iu hiu), fun b hb => ?_⟩
    have hb' := Item.asVw_blk hb
    cases hm : iu.mine with
    | true => exact .inl ((h.own iu hiu hm b hb').resolve_right id)
    | false => exact (hv iu hiu hm b hb').imp id fun h => ⟨Item.asVw_mine (hs iu hiu), h⟩
  · rw [List.pairwise_map]
    exact List.pairwise_of_forall_mem_list fun x hx y hy => .inl ⟨Item.asVw_mine (hs x hx), Item.asVw_mine (hs y hy)⟩

/-! ### Built values -/
omit [Dfr] in
def evps (τ : Tm) : List (Nat × Operand) → Option (List (Nat × Value))
  | [] => some []
  | (i, x) :: r => match evl τ x, evps τ r with
    | some v, some vs => some ((i, v) :: vs)
    | _, _ => none
theorem evps_eq {a : Act} (ha : Has n τ a) : ∀ (xs : List (Nat × Operand)) (vs : List (Nat × Value)), evps τ xs = some vs → xs.map (fun p => (p.1, a.eval p.2)) = vs
  | [], vs, h => by simp [evps] at h; simp [h]
  | (i, x) :: r, vs, h => by
    simp only [evps] at h
    cases hx : evl τ x with
    | none => rw [hx] at h; simp at h
    | some v =>
      cases hr : evps τ r with
      | none => rw [hx, hr] at h; simp at h
      | some us =>
        rw [hx, hr] at h
        simp only [Option.some.injEq] at h
        subst h
        rw [List.map_cons, ha.ev hx, evps_eq ha r us hr]
theorem Yld.build {t : TypeId} {parts : Array (Nat × Operand)} {ps : List (Nat × Value)} {cells : Array Value} (ho : o.op = .build t parts) (hp : evps τ parts.toList = some ps) (hb : P.built t ps = some cells) : Yld P w0 D n o τ H (.agg cells) :=
  ⟨fun a w h hw => by
    have hm : (parts.map fun (i, x) => (i, a.eval x)).toList = ps := by
      rw [Array.toList_map]; exact evps_eq h _ _ hp
    have := run_build (P := P) w t (parts.map fun (i, x) => (i, a.eval x)) cells (by rw [hm]; exact hb)
    simp only [execOp, ho]
    simp [this]⟩
theorem foldl_set : ∀ (us : List Value) (o j : Nat) (pre post : List Value), pre.length = o + j → us.length ≤ post.length →
    (us.zipIdx j).foldl (fun (cs : Array Value) (p : Value × Nat) => cs.setIfInBounds (o + p.2) p.1) (pre ++ post).toArray = (pre ++ us ++ post.drop us.length).toArray
  | [], o, j, pre, post, _, _ => by simp
  | u :: us, o, j, pre, [], _, h => by simp at h
  | u :: us, o, j, pre, p :: post, hp, h => by
    simp only [List.zipIdx_cons, List.foldl_cons]
    have : (pre ++ p :: post).toArray.setIfInBounds (o + j) u = ((pre ++ [u]) ++ post).toArray := by
      rw [← hp]
      simp
    rw [this, foldl_set us o (j + 1) (pre ++ [u]) post (by simp; omega) (by simpa using h)]
    simp
omit [Dfr] in
def number : Nat → List Value → List (Nat × Value)
  | _, [] => []
  | k, v :: r => (k, v) :: number (k + 1) r
theorem fill_seq (m : Nat) : ∀ (vs : List Value) (k : Nat) (done tail : List Value), done.length = k * m → (∀ v ∈ vs, v.cells.toList.length = m) → tail.length = vs.length * m →
    Instr.fill (fun i => some (i * m, m)) (done ++ tail).toArray (number k vs) = some (done ++ vs.flatMap fun v => v.cells.toList).toArray
  | [], k, done, tail, _, _, ht => by
    have : tail = [] := List.eq_nil_of_length_eq_zero (by simpa using ht)
    subst this; simp [number, Instr.fill]
  | v :: r, k, done, tail, hd, hv, ht => by
    have hm : v.cells.size = m := by have := hv v (by simp); simpa using this
    have htl : m ≤ tail.length := by rw [ht, List.length_cons, Nat.succ_mul]; omega
    have hfit : ¬ (k * m + v.cells.size > (done ++ tail).toArray.size) := by simp; omega
    simp only [number, Instr.fill, hm, ne_eq, not_true_eq_false, decide_false, Bool.false_or]
    rw [if_neg (by simp; omega)]
    have h1 : v.cells.zipIdx.foldl (fun (cs : Array Value) (p : Value × Nat) => cs.setIfInBounds (k * m + p.2) p.1) (done ++ tail).toArray = (done ++ v.cells.toList ++ tail.drop m).toArray := by
      have := foldl_set v.cells.toList (k * m) 0 done tail (by simpa using hd) (by simpa [hm] using htl)
      rw [Array.length_toList, hm] at this
      rw [← this, ← Array.foldl_toList]
      simp
    have h2 := fill_seq m r (k + 1) (done ++ v.cells.toList) (tail.drop m) (by simp [hd, hm, Nat.succ_mul]) (fun u hu => hv u (by simp [hu])) (by simp [ht, Nat.succ_mul])
    refine Eq.trans (congrArg (fun c => Instr.fill (fun i => some (i * m, m)) c (number (k + 1) r)) h1) (h2.trans ?_)
    simp
omit [Dfr] in
/-- The parts of a slice that is written out: all of its elements, in order. -/
def seqB (k m : Nat) : List (Nat × Value) → Option (List Value)
  | [] => some []
  | (i, v) :: r => bif Nat.beq i k && Nat.beq v.cells.toList.length m then (match seqB (k + 1) m r with | some vs => some (v :: vs) | none => none) else none
theorem seqB_eq (m : Nat) : ∀ (ps : List (Nat × Value)) (k : Nat) (vs : List Value), seqB k m ps = some vs → ps = number k vs ∧ ∀ v ∈ vs, v.cells.toList.length = m
  | [], k, vs, h => by simp [seqB] at h; subst h; simp [number]
  | (i, v) :: r, k, vs, h => by
    simp only [seqB] at h
    cases hb : Nat.beq i k && Nat.beq v.cells.toList.length m with
    | false => rw [hb] at h; cases h
    | true =>
      rw [hb] at h
      simp only [cond_true] at h
      cases hr : seqB (k + 1) m r with
      | none => rw [hr] at h; cases h
      | some us =>
        rw [hr] at h
        simp only [Option.some.injEq] at h
        subst h
        obtain ⟨h1, h2⟩ := seqB_eq m r (k + 1) us hr
        rw [Bool.and_eq_true] at hb
        have e1 := Nat.eq_of_beq_eq_true hb.1
        have e2 := Nat.eq_of_beq_eq_true hb.2
        subst e1
        exact ⟨by rw [number, ← h1], fun u hu => by rcases List.mem_cons.1 hu with rfl | hu; exact e2; exact h2 u hu⟩
omit [Dfr] in
def cellsOf : List Value → List Value
  | [] => []
  | v :: r => v.cells.toList ++ cellsOf r
theorem CellsAre.eq {vs cs : List Value} (h : CellsAre vs cs) : cellsOf vs = cs := by
  induction h with
  | nil => rfl
  | agg1 => simp [cellsOf, Value.cells]
  | agg h ih => simp [cellsOf, Value.cells, ih]
  | one h1 h ih =>
    rename_i v r rs
    have : v.cells.toList = [v] := by cases v <;> first | rfl | cases h1
    simp [cellsOf, this, ih]
theorem cellsOf_eq : ∀ vs : List Value, cellsOf vs = vs.flatMap fun v => v.cells.toList
  | [] => rfl
  | v :: r => by simp [cellsOf, cellsOf_eq r]
/-- A slice that is written out: a new block. -/
theorem StepTo.buildSlice {t e len m d : Nat} {parts : Array (Nat × Operand)} {ps : List (Nat × Value)} {vs : List Value} {z : Value} (ho : o.op = .buildSlice t len parts) (hdst : o.dst = some d) (hd : Nat.blt d n = true) (hp : evps τ parts.toList = some ps) (ht : P.underlying t = some (.slice e))
    (hs : (P.info? e).map (·.size) = some m) (hz : (P.info? e).bind (·.zero) = some z) (hm : Nat.ble (len * m) 1000 && Nat.blt 0 (len * m) = true)
    (hf : seqB 0 m ps = some vs) (hl : Nat.beq vs.length len = true) {cs : List Value} (hc' : CellsAre vs cs)
    (hK : ∀ b, K ((d, .slice (some ⟨b, 0, none⟩) len len) :: τ) (.box b e cs :: H)) : StepTo P w0 D n o τ H K :=
  ⟨fun Kw Q hk a w ha hw => by
    have hc := hc'.eq
    subst hc
    obtain ⟨i, hi, hz'⟩ : ∃ i, P.info? e = some i ∧ i.zero = some z := by
      cases hh : P.info? e with
      | none => rw [hh] at hz; cases hz
      | some i => rw [hh] at hz; exact ⟨i, rfl, hz⟩
    simp only [Bool.and_eq_true] at hm
    have h1 := Nat.le_of_ble_eq_true hm.1
    have h2 : 0 < len * m := by have := hm.2; simpa [Nat.blt, Nat.succ_le_iff] using this
    have h3 : ¬ (len * m > 2 ^ 24) := by omega
    have h4 : ¬ (len * m = 0) := by omega
    have hm' : (parts.map fun (i, x) => (i, a.eval x)).toList = ps := by
      rw [Array.toList_map]; exact evps_eq ha _ _ hp
    obtain ⟨hps, hvs⟩ := seqB_eq m ps 0 vs hf
    have hlen := Nat.eq_of_beq_eq_true hl
    have hfill : Instr.fill (fun i => some (i * m, m)) ((Array.range (len * m)).map (z.cells[· % z.cells.size]!)) ps = some (cellsOf vs).toArray := by
      have := fill_seq m vs 0 [] ((Array.range (len * m)).map (z.cells[· % z.cells.size]!)).toList (by simp) hvs (by simp [hlen])
      rw [hps, cellsOf_eq]
      simp only [List.nil_append, Array.toArray_toList] at this
      exact this
    have hr : (execOp a.eval o).run P w = .ok (.value (.slice (some ⟨w.heap.size, 0, none⟩) len len)) (w.alloc (.cells (cellsOf vs).toArray e)) := by
      have hsz := run_sizeOf hs w
      have hzv : (zeroValue e).run P w = .ok z w := by simp [zeroValue, typeInfo, hi, hz']
      simp only [execOp, ho]
      simp only [Instr.buildSlice, hm', Sem.run_bind, run_underlying ht, Result.andThen_ok, hsz, h3, h4, if_false, hzv, Sem.run_pure, hfill, newRow, run_newObj]
      rfl
    unfold Oper.wp
    rw [hr, Oper.upon_value, hdst]
    exact hk _ _ (hK w.heap.size) _ _ (ha.put (some d) _ hd) (hw.alloc e _)⟩
theorem Yld.pickB {c x y : Operand} {b : Bool} {vx vy : Value} (ho : o.op = .pick c x y) (hc : evl τ c = some (.bool b)) (hx : evl τ x = some vx) (hy : evl τ y = some vy) : Yld P w0 D n o τ H (if b = true then vx else vy) :=
  ⟨fun a w h hw => by simp [execOp, ho, h.ev hc, h.ev hx, h.ev hy, asBool]⟩
theorem Yld.pickT {c x y : Operand} {vx : Value} (ho : o.op = .pick c x y) (hc : evl τ c = some (.bool true)) (hx : evl τ x = some vx) : Yld P w0 D n o τ H vx :=
  ⟨fun a w h hw => by simp [execOp, ho, h.ev hc, h.ev hx, asBool]⟩
theorem Yld.pickF {c x y : Operand} {vy : Value} (ho : o.op = .pick c x y) (hc : evl τ c = some (.bool false)) (hy : evl τ y = some vy) : Yld P w0 D n o τ H vy :=
  ⟨fun a w h hw => by simp [execOp, ho, h.ev hc, h.ev hy, asBool]⟩
theorem Yld.pickTh {c x y : Operand} {b : Bool} {vx : Value} (ho : o.op = .pick c x y) (hc : evl τ c = some (.bool b)) (hb : b = true) (hx : evl τ x = some vx) : Yld P w0 D n o τ H vx := Yld.pickT ho (by rw [hc, hb]) hx
theorem Yld.pickFh {c x y : Operand} {b : Bool} {vy : Value} (ho : o.op = .pick c x y) (hc : evl τ c = some (.bool b)) (hb : b = false) (hy : evl τ y = some vy) : Yld P w0 D n o τ H vy := Yld.pickF ho (by rw [hc, hb]) hy
theorem Yld.func {fn : Fn} {first captured : Array Operand} {fs cs : List Value} (ho : o.op = .makeFunc fn first captured) (hf : evls τ first.toList = some fs) (hc : evls τ captured.toList = some cs) : Yld P w0 D n o τ H (.func fn fs.toArray cs.toArray) :=
  ⟨fun a w h hw => by
    have h1 : first.map a.eval = fs.toArray := by rw [← evls_eq h _ _ hf]; exact Array.ext' (by simp)
    have h2 : captured.map a.eval = cs.toArray := by rw [← evls_eq h _ _ hc]; exact Array.ext' (by simp)
    simp [execOp, ho, Instr.makeFunc, h1, h2]⟩

/-! ### Rows that grow -/
/-- A row that is nil owns nothing. -/
theorem WL.nilRow (t k : Nat) (h : WL P w0 D n ops Q l τ (.row none 0 0 t k [] :: H)) : WL P w0 D n ops Q l τ H :=
  ⟨fun a w ha hw => h.go a w ha ⟨hw.ext, fun it hit => by
      rcases List.mem_cons.1 hit with rfl | hit
      · exact World.ownsRow_nil w 0 t k
      · exact hw.holds it hit, fun it hit hm b hb => by
      rcases List.mem_cons.1 hit with rfl | hit
      · simp [Item.blk] at hb
      · exact hw.own it hit hm b hb, List.Pairwise.cons (fun y _ => .inr fun b hb => by simp [Item.blk] at hb) hw.apart⟩⟩
theorem WC.nilRow {c : Code} (t k : Nat) (h : WC P w0 D n c Q τ (.row none 0 0 t k [] :: H)) : WC P w0 D n c Q τ H :=
  ⟨fun a w ha hw => h.go a w ha ⟨hw.ext, fun it hit => by
      rcases List.mem_cons.1 hit with rfl | hit
      · exact World.ownsRow_nil w 0 t k
      · exact hw.holds it hit, fun it hit hm b hb => by
      rcases List.mem_cons.1 hit with rfl | hit
      · simp [Item.blk] at hb
      · exact hw.own it hit hm b hb, List.Pairwise.cons (fun y _ => .inr fun b hb => by simp [Item.blk] at hb) hw.apart⟩⟩
theorem WC.nilVw {c : Code} (k : Nat) (h : WC P w0 D n c Q τ (.vw none 0 k [] :: H)) : WC P w0 D n c Q τ H :=
  ⟨fun a w ha hw => h.go a w ha ⟨hw.ext, fun it hit => by
      rcases List.mem_cons.1 hit with rfl | hit
      · exact ⟨by simp, by simp [maxLen], fun h => absurd h (by omega)⟩
      · exact hw.holds it hit, fun it hit hm b hb => by
      rcases List.mem_cons.1 hit with rfl | hit
      · simp [Item.blk] at hb
      · exact hw.own it hit hm b hb, List.Pairwise.cons (fun y _ => .inr fun b hb => by simp [Item.blk] at hb) hw.apart⟩⟩
theorem WL.vwAt (i : Nat) {A : Option Addr} {m k : Nat} {xs : List Value} (hi : H[i]? = some (.vw A m k xs)) (hm : 0 < m) (h : ∀ b off, A = some ⟨b, off, none⟩ → WL P w0 D n ops Q l τ H) : WL P w0 D n ops Q l τ H :=
  ⟨fun a w ha hw => by
    obtain ⟨b, off, e, _⟩ := (hw.holds _ (List.mem_of_getElem? hi)).2.2 hm
    exact (h b off e).go a w ha hw⟩
theorem Item.row_shape {w : World} {A : Option Addr} {m c t k : Nat} {xs : List Value} (h : w.ownsRow 0 t k (.slice A m c) m xs) (hm : 0 < m) : ∃ b, A = some ⟨b, 0, none⟩ := by
  obtain ⟨g, cap, hv, _⟩ := h.form hm
  injection hv with hv
  exact ⟨g, hv⟩
/-- A row of some elements lies somewhere. -/
theorem WC.rowAt {c : Code} (i : Nat) {A : Option Addr} {m cap t k : Nat} {xs : List Value} (hi : H[i]? = some (.row A m cap t k xs)) (hm : 0 < m) (h : ∀ b, A = some ⟨b, 0, none⟩ → WC P w0 D n c Q τ H) : WC P w0 D n c Q τ H :=
  ⟨fun a w ha hw => by
    obtain ⟨b, hb⟩ := Item.row_shape (hw.holds _ (List.mem_of_getElem? hi)) hm
    exact (h b hb).go a w ha hw⟩
theorem StepTo.append {x s : Operand} {t e k m c q cq b off by_ d : Nat} {A : Option Addr} {xs news : List Value} (i : Nat) (ho : o.op = .call { callee := .builtin .append, args := #[s, x], argTypes := #[t, t] }) (hdst : o.dst = some d) (hd : Nat.blt d n = true)
    (hs : evl τ s = some (.slice A m c)) (hi : H[i]? = some (.row A m c e k xs)) (hx : evl τ x = some (.slice (some ⟨b, off, none⟩) q cq)) (ht : P.underlying t = some (.slice e)) (hk : (P.info? e).map (·.size) = some k) (hb : (P.info? e).map (·.bytes) = some by_)
    (hz : ((P.info? e).bind (·.zero)).map (·.cells.size) = some k) (hk0 : Nat.blt 0 k = true) (hbb : Nat.ble by_ 256 = true) (hn : CellsAt w0 D H b off news) (hl : news.length = q * k) (h1 : news.all Value.oneCell' = true)
    (hm : m + q ≤ 549755813888)
    (hK : ∀ A' c', ∃ H2, SetAt H i (.row A' (m + q) c' e k (xs ++ news)) H2 ∧ K ((d, .slice A' (m + q) c') :: τ) H2) : StepTo P w0 D n o τ H K :=
  ⟨fun Kw Q hk' a w ha hw => by
    have h1 : ∀ u ∈ news, u.oneCell' = true := by simpa using h1
    have hby : (m + q) * by_ ≤ 140737488355328 := by
      have h256 := Nat.le_of_ble_eq_true hbb
      have := Nat.mul_le_mul hm h256
      omega
    obtain ⟨ti, hti, hsz, hbz, z, hzz, hzc⟩ : ∃ ti, P.info? e = some ti ∧ ti.size = k ∧ ti.bytes = by_ ∧ ∃ z, ti.zero = some z ∧ z.cells.size = k := by
      cases hh : P.info? e with
      | none => rw [hh] at hk; cases hk
      | some ti =>
        rw [hh] at hk hb hz
        simp only [Option.map_some, Option.some.injEq, Option.bind_some] at hk hb hz
        cases hzz : ti.zero with
        | none => rw [hzz] at hz; cases hz
        | some z =>
          rw [hzz] at hz
          exact ⟨ti, rfl, hk, hb, z, hzz, by simpa using hz⟩
    have hrow := hw.holds _ (List.mem_of_getElem? hi)
    obtain ⟨v', w', hr, hown, hgr, _, hat⟩ := run_append_own_at (P := P) w 0 t o.type e ti z k by_ ht hti hzz hsz hbz hzc (by simpa [Nat.blt, Nat.succ_le_iff] using hk0) (.slice A m c) m xs hrow ⟨b, off, none⟩ q cq news hl
      (fun j u hu => by rw [addr_add]; exact hn w hw j u hu) h1 (by simp only [maxLen]; omega) hby (Nat.zero_le _)
    obtain ⟨A', c', rfl⟩ := own_shape hown
    have hrun : (execOp a.eval o).run P w = .ok (.value (.slice A' (m + q) c')) w' := by
      simp [execOp, ho, resolve, invoke, builtin, ha.ev hs, ha.ev hx, hr]
    have hob : ∀ (B : Option Addr) (l c : Nat), (Value.slice B l c).ownBlock = B.map (·.block) := fun B l c => by cases B <;> rfl
    rw [hob] at hgr hat
    rw [hob] at hat
    unfold Oper.wp
    rw [hrun]
    rw [Oper.upon_value, hdst]
    obtain ⟨H2, hH, hK⟩ := hK A' c'
    refine hk' _ _ hK _ _ (ha.put (some d) _ hd) ?_
    rw [← hH.eq]
    exact hw.turn hi rfl (fun b' hb' => by
        simp only [Item.blk] at hb' ⊢
        rcases hat with h | h
        · exact .inl (h ▸ hb')
        · rw [h] at hb'
          injection hb' with hb'
          exact .inr (by omega)) hown
      (fun k hk hne => hgr.block k hk (fun e => hne (by rw [e]; rfl))) hgr.size hgr.os hgr.tape hgr.output⟩
end
end Go.Proofs.Ythbhjnmkbmmcnaa
