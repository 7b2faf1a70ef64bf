/- Variables of many cells: what is loaded from them and stored into them by place; the last operation of a region may write what it loads. Of whatever program. -/
import Derived.Test.YthbhjnmkbmmcnaaAt
import Derived.StillTail
import Derived.Laws.CopyRow
import Derived.Laws.Slices
namespace Go.Proofs.Ythbhjnmkbmmcnaa
open Go.RowKit Go.IntWalk
set_option linter.unusedVariables false
set_option linter.unusedSectionVars false

section
variable {P : Program} {w0 : World} {D : Nat → Prop} {n : Nat} [Dfr] {Q : Exit → Act → World → Prop} {τ : Tm} {H : List Item} {ops : Array Oper} {o : Oper} {l : List Oper} {v v' : Value} {K : Tm → List Item → Prop}
theorem CellAt.boxE (i : Nat) {b t off q : Nat} {cs : List Value} (hi : H[i]? = some (.box b t cs)) (hc : cs[q]? = some v) (e : off = q) : CellAt w0 D H b off v := e ▸ CellAt.box i hi hc
theorem CellAt.vwB (i : Nat) {b off m k o q : Nat} {xs : List Value} (hi : H[i]? = some (.vw (some ⟨b, off, none⟩) m k xs)) (hc : xs[q]? = some v) (e : o = off + q) : CellAt w0 D H b o v := CellAt.vwE i hi hc e
theorem AggAt.boxAll (i : Nat) {b t m : Nat} {cs : List Value} (hi : H[i]? = some (.box b t cs)) (hl : cs.length = m) : AggAt w0 D H b 0 m cs := AggAt.of (fun w hw j u hj => by rw [Nat.zero_add]; exact CellAt.box i hi hj w hw) hl
theorem over_one : ∀ (cs : List Value) (q : Nat) (u : Value), over cs q [u] = cs.set q u
  | [], q, u => by cases q <;> rfl
  | c :: r, 0, u => by simp [over, over_nil]
  | c :: r, q + 1, u => by simp [over, over_one r q u]
theorem over_all : ∀ (cs vs : List Value), cs.length = vs.length → over cs 0 vs = vs
  | [], [], _ => rfl
  | c :: r, v :: vs, h => by simp only [over, over_all r vs (by simpa using h)]
  | [], v :: vs, h => by simp at h
  | c :: r, [], h => by simp at h
/-- One cell of a variable is written. -/
theorem StepTo.stB {T : TypeId} {x y : Operand} {b off t q : Nat} {cs cs' : List Value} {H2 : List Item} (i : Nat) (ho : o.op = .store T x y) (hdn : o.dst = none) (hx : evl τ x = some (.pointer (some ⟨b, off, none⟩))) (hy : evl τ y = some v)
    (hi : H[i]? = some (.box b t cs)) (h1 : v.oneCell' = true) (hv : v.cells.toList = [v]) (hs : (P.info? T).map (·.size) = some 1) (hq : off = q) (hlt : q < cs.length) (e : cs.set q v = cs') (hset : SetAt H i (.box b t cs') H2) (hK : K τ H2) : StepTo P w0 D n o τ H K := by
  subst hq
  subst e
  exact StepTo.store' (m := 1) (vs := [v]) i ho hdn hx hy hv hs rfl (by simpa using h1) hi (Nat.ble_eq_true_of_le (by simp only [List.length_cons, List.length_nil]; omega)) (by rw [over_one]; exact hset.eq) hK
/-- A whole variable is written. -/
theorem StepTo.stBA {T : TypeId} {x y : Operand} {b t m : Nat} {cs vs : List Value} {H2 : List Item} (i : Nat) (ho : o.op = .store T x y) (hdn : o.dst = none) (hx : evl τ x = some (.pointer (some ⟨b, 0, none⟩))) (hy : evl τ y = some (.agg vs.toArray))
    (hi : H[i]? = some (.box b t cs)) (h1 : ∀ u ∈ vs, u.oneCell' = true) (hs : (P.info? T).map (·.size) = some m) (hl : cs.length = m) (hvl : vs.length = m) (hset : SetAt H i (.box b t vs) H2) (hK : K τ H2) : StepTo P w0 D n o τ H K := by
  exact StepTo.store' (m := m) (vs := vs) i ho hdn hx hy (by simp [Value.cells]) hs hvl (by rw [List.all_eq_true]; exact h1) hi (Nat.ble_eq_true_of_le (by omega)) (by rw [over_all cs vs (by omega)]; exact hset.eq) hK
theorem Yld.as (h : Yld P w0 D n o τ H v) (e : v = v') : Yld P w0 D n o τ H v' := e ▸ h
/-- An array that is sliced where it lies. -/
theorem Yld.sliceALo {T m lo : Nat} {x lx : Operand} {b off : Nat} {kk : IntKind} {q : Int} (ho : o.op = .slice T x (some lx) none none) (hx : evl τ x = some (.pointer (some ⟨b, off, none⟩))) (hq : evl τ lx = some (.int kk q)) (ht : P.underlying T = some (.array (P.arrayLen T) (P.elem T)))
    (hm : P.arrayLen T = m) (hs : szOf P (P.elem T) = some 1) (hk : q = (lo : Int)) (hlt : lo < m) : Yld P w0 D n o τ H (.slice (some ⟨b, off + lo, none⟩) (m - lo) (m - lo)) := ⟨fun a w hA hw => by
  subst hk; subst hm
  have hs' := szOf_eq hs
  have hr := run_sliceAt_array_l (P := P) w T ⟨b, off, none⟩ ht kk (lo : Int) (by omega) (by omega)
  simp only [run_sizeOf hs', Result.andThen_ok, slicedAt, Int.toNat_natCast, if_neg (show ¬ P.arrayLen T = lo from by omega), Nat.mul_one, addr_add] at hr
  simp only [execOp, ho, hA.ev hx, Option.map_some, Option.map_none, hA.ev hq]
  simp [hr]⟩
theorem Yld.sliceAHi {T m hi : Nat} {x hx' : Operand} {b off : Nat} {kk : IntKind} {q : Int} (ho : o.op = .slice T x none (some hx') none) (hx : evl τ x = some (.pointer (some ⟨b, off, none⟩))) (hq : evl τ hx' = some (.int kk q)) (ht : P.underlying T = some (.array (P.arrayLen T) (P.elem T)))
    (hm : P.arrayLen T = m) (hs : szOf P (P.elem T) = some 1) (hk : q = (hi : Int)) (hlt : hi ≤ m) (h0 : 0 < m) : Yld P w0 D n o τ H (.slice (some ⟨b, off, none⟩) hi m) := ⟨fun a w hA hw => by
  subst hk; subst hm
  have hs' := szOf_eq hs
  have hr := run_sliceAt_array_h (P := P) w T ⟨b, off, none⟩ ht kk (hi : Int) (by omega) (by omega)
  simp only [run_sizeOf hs', Result.andThen_ok, slicedAt, Int.toNat_natCast, if_neg (show ¬ P.arrayLen T = 0 from by omega), Nat.zero_mul, addr_add, Nat.add_zero, Nat.sub_zero] at hr
  simp only [execOp, ho, hA.ev hx, Option.map_some, Option.map_none, hA.ev hq]
  simp [hr]⟩
theorem Yld.sliceAAll {T m : Nat} {x : Operand} {b off : Nat} (ho : o.op = .slice T x none none none) (hx : evl τ x = some (.pointer (some ⟨b, off, none⟩))) (ht : P.underlying T = some (.array (P.arrayLen T) (P.elem T)))
    (hm : P.arrayLen T = m) (hs : szOf P (P.elem T) = some 1) (h0 : 0 < m) : Yld P w0 D n o τ H (.slice (some ⟨b, off, none⟩) m m) := ⟨fun a w hA hw => by
  subst hm
  have hs' := szOf_eq hs
  have hr := run_sliceAt_array_all (P := P) w T ⟨b, off, none⟩ ht
  simp only [run_sizeOf hs', Result.andThen_ok, slicedAt, if_neg (show ¬ P.arrayLen T = 0 from by omega), Nat.zero_mul, addr_add, Nat.add_zero, Nat.sub_zero] at hr
  simp only [execOp, ho, hA.ev hx, Option.map_none]
  simp [hr]⟩
/-- An element of an array value. -/
theorem Yld.indexArr {T e m : Nat} {x ix : Operand} {cs : List Value} {k : IntKind} {kk : IntKind} {q z : Int} (j : Nat) (ho : o.op = .index T x ix) (hx : evl τ x = some (.agg cs.toArray)) (hi : evl τ ix = some (.int kk q)) (ht : P.underlying T = some (.array m e)) (he : P.underlying e = some (.int k)) (hs : szOf P e = some 1)
    (hq : q = (j : Int)) (hj : j < m) (hc : cs[j]? = some (.int k z)) : Yld P w0 D n o τ H (.int k z) := ⟨fun a w hA hw => by
  subst hq
  have hs' := szOf_eq hs
  have hb : (0 : Int) ≤ (j : Int) ∧ (j : Int) < (m : Int) := by omega
  have hp : (part e cs.toArray (j * 1)).run P w = .ok (.int k z) w := by
    simp [_root_.Go.part, isAgg, run_underlying he, hc]
  simp only [execOp, ho, hA.ev hx, hA.ev hi]
  simp only [Nat.mul_one] at hp
  simp [Instr.index, asIntOf, run_underlying ht, hb, run_sizeOf hs', hp]
  intro h
  exact absurd h (by omega)⟩
/-- Cells that are copied into a variable. -/
theorem StepTo.copyBox {d s : Operand} {t u e dd b q dl dc sb so sl sc T : Nat} {cs vs cs' : List Value} {H2 : List Item} (i : Nat) (ho : o.op = .call { callee := .builtin .copy, args := #[d, s], argTypes := #[t, u] }) (hdst : o.dst = some dd) (hd : Nat.blt dd n = true)
    (hx : evl τ d = some (.slice (some ⟨b, q, none⟩) dl dc)) (hy : evl τ s = some (.slice (some ⟨sb, so, none⟩) sl sc)) (hi : H[i]? = some (.box b T cs)) (ht : P.underlying t = some (.slice e)) (hs : (P.info? e).map (·.size) = some 1)
    (hsrc : CellsAt w0 D H sb so vs) (hn : vs.length = Nat.min sl dl) (hf : q + vs.length ≤ cs.length) (h1 : ∀ u ∈ vs, u.oneCell' = true) (e' : over cs q vs = cs') (hset : SetAt H i (.box b T cs') H2) (hK : K ((dd, .int .i64 (vs.length : Nat)) :: τ) H2) : StepTo P w0 D n o τ H K := ⟨fun Kw Q hk a w ha hw => by
  subst e'
  have hg : w.heap[b]? = some (.cells cs.toArray T (0, 0)) := hw.holds _ (List.mem_of_getElem? hi)
  have hr := run_copy_row (P := P) w t u o.type e b q dl dc ⟨sb, so, none⟩ sl sc cs.toArray T vs ht hs hg hn (fun j v hv => by rw [addr_add]; exact hsrc w hw j v hv) (by simpa using hf) h1
  obtain ⟨_, hsat⟩ := hw.write (P := P) hi hf (by rw [List.all_eq_true]; exact h1)
  rw [over_eq cs q vs hf] at hsat
  have hrun : (execOp a.eval o).run P w = .ok (.value (.int .i64 (vs.length : Nat))) (w.setRow b (cs.take q ++ vs ++ cs.drop (q + vs.length)).toArray) := by
    simp only [execOp, ho, resolve, invoke, builtin]
    simp [ha.ev hx, ha.ev hy, hr, goInt]
  unfold Oper.wp
  rw [hrun, Oper.upon_value, hdst]
  refine hk _ _ hK _ _ (ha.put (some dd) _ hd) ?_
  rw [← hset.eq, over_eq cs q vs hf]
  exact hsat⟩
/-- Of a region that draws its order: its first operations, which leave the world as it is. -/
structure WT (P : Program) (w0 : World) (D : Nat → Prop) (n : Nat) (ops : Array Oper) (H : List Item) (Q : Exit → Act → World → Prop) (rest : List Oper) (l : List Oper) (τ : Tm) : Prop where
  go : ∀ a w, Has n τ a → Sat w0 D H w → wpStill P ops w (fun a' => wpList P ops Q rest a' w) l a
/-- A region that draws its order, whose operations but those from the k-th on leave the world as it is. -/
theorem WC.tail {i : Nat} (k : Nat) (hm : P.follows .mixedOrders = true) (hB : Region.lexTailB .any l.toArray k = true) (h : WT P w0 D n l.toArray H Q (l.drop k) (l.take k) τ) : WC P w0 D n (.region i l.toArray true) Q τ H :=
  ⟨fun a w ha hw => wp_region_still_tail k hm hB (h.go a w.drew ha hw.drew)⟩
theorem WT.nil {rest : List Oper} (h : WL P w0 D n ops Q rest τ H) : WT P w0 D n ops H Q rest [] τ := ⟨fun a w ha hw => wpStill_nil (h.go a w ha hw)⟩
theorem WT.yld {d : Nat} {op : Op} {ty : TypeId} {pos : String} {after : Array Edge} {rest : List Oper} (hd : Nat.blt d n = true) (h : Yld P w0 D n ⟨some d, op, ty, pos, after, none⟩ τ H v) (hK : WT P w0 D n ops H Q rest l ((d, v) :: τ)) :
    WT P w0 D n ops H Q rest (⟨some d, op, ty, pos, after, none⟩ :: l) τ := ⟨fun a w ha hw => wpStill_step fun K hk => by
  rw [if_pos (by simp [Region.wanted])]
  unfold Oper.still
  rw [h.go a w ha hw, Oper.stillUpon_value]
  exact hk _ (hK.go _ w (ha.put (some d) v hd) hw)⟩
theorem WT.call {d : Nat} {F : Operand} {args : Array Operand} {tys : Array TypeId} {vs us : List Value} {f : FuncId} {ty : TypeId} {pos : String} {after : Array Edge} {rest : List Oper} (hd : Nat.blt d n = true)
    (ha : evls τ args.toList = some vs) (hF : funV vs (evl τ F) = some (f, us)) (hB : callsB P f = true)
    (h : ∀ w, Calls P f us.toArray w fun e w' => e = .returned v ∧ w' = w) (hK : WT P w0 D n ops H Q rest l ((d, v) :: τ)) :
    WT P w0 D n ops H Q rest (⟨some d, .call { callee := .value F, args := args, argTypes := tys }, ty, pos, after, none⟩ :: l) τ := ⟨fun a w hA hw => wpStill_step fun K hk => by
  obtain ⟨first, captured, hfv, rfl⟩ := funV_some hF
  have hrun : (execOp a.eval ⟨some d, .call { callee := .value F, args := args, argTypes := tys }, ty, pos, after, none⟩).run P w = .ok (.enter f (first.toList ++ vs ++ captured.toList).toArray) w := by
    have hm : args.map a.eval = vs.toArray := by
      rw [← evls_eq hA _ _ ha]; exact Array.ext' (by simp)
    have he := hA.ev hfv
    simp [execOp, resolve, he, hm, Deferred.ofValue, invoke, run_callFunc hB]
  rw [if_pos (by simp [Region.wanted])]
  unfold Oper.still
  rw [hrun]
  exact ⟨rfl, v, h w, hk _ (hK.go _ w (hA.put (some d) v hd) hw)⟩⟩
/-- A region that draws its order: what it loads stands so behind each of its operations, before and after its own write. -/
structure WB (P : Program) (w0 : World) (D : Nat → Prop) (n : Nat) (ops : Array Oper) (S1 S2 : List Item) (Q : Exit → Act → World → Prop) (fuel : Nat) (listed : Array Bool) (τ : Tm) (H : List Item) : Prop where
  go : ∀ a w, Has n τ a → Sat w0 D H w → wpAnyH P .any ops (NoPanic Q) (fun w => Sat w0 D S1 w ∨ Sat w0 D S2 w) fuel listed a w
theorem WC.anyB (idx : List Nat) (S2 : List Item) {i : Nat} (hm : P.follows .mixedOrders = true) (h : WB P w0 D n ops (sel H idx) S2 Q ops.size (Array.replicate ops.size false) τ H) : WC P w0 D n (.region i ops true) Q τ H :=
  ⟨fun a w ha hw => wp_region_noPanic (wp_region_held (S := fun w => Sat w0 D (sel H idx) w ∨ Sat w0 D S2 w) hm (h.go a _ ha hw.drew))⟩
theorem WB.done {S1 S2 : List Item} {fuel : Nat} {listed : Array Bool} (hr : Region.ready .any ops listed = []) (h : WQ w0 D n (Q .normal) τ H) : WB P w0 D n ops S1 S2 Q fuel listed τ H :=
  ⟨fun a w ha hw => wpAnyH_done (Q := NoPanic Q) hr (h.go a w ha hw) fuel⟩
theorem WB.take {S1 S2 : List Item} {idx : List Nat} (i : Nat) {d : Nat} {op : Op} {ty : TypeId} {pos : String} {after : Array Edge} {fuel : Nat} {listed : Array Bool} (hi : ops[i]? = some ⟨some d, op, ty, pos, after, none⟩) (hs : Region.noSelect ops = true)
    (hf : Region.free .any ops listed i = true) (hr : (Region.ready .any ops listed).contains i = true) (hd : Nat.blt d n = true) (hp : Pick idx H S1) (hy : Yld P w0 D n ⟨some d, op, ty, pos, after, none⟩ τ S1 v) (hy2 : Yld P w0 D n ⟨some d, op, ty, pos, after, none⟩ τ S2 v)
    (h : WB P w0 D n ops S1 S2 Q fuel (listed.setIfInBounds i true) ((d, v) :: τ) H) : WB P w0 D n ops S1 S2 Q (fuel + 1) listed τ H :=
  ⟨fun a w ha hw => wpAnyH_take hi hs hf hr (fun _ _ _ h => h) (.inl ⟨by simp [Region.wanted], fun w' hw' => hw'.elim (hy.go a w' ha) (hy2.go a w' ha)⟩) (.inl (hw.pick hp)) (h.go _ w (ha.put (some d) v hd) hw)⟩
/-- .. behind the write. -/
theorem WB.take2 {S1 S2 : List Item} {idx : List Nat} (i : Nat) {d : Nat} {op : Op} {ty : TypeId} {pos : String} {after : Array Edge} {fuel : Nat} {listed : Array Bool} (hi : ops[i]? = some ⟨some d, op, ty, pos, after, none⟩) (hs : Region.noSelect ops = true)
    (hf : Region.free .any ops listed i = true) (hr : (Region.ready .any ops listed).contains i = true) (hd : Nat.blt d n = true) (hp : Pick idx H S2) (hy : Yld P w0 D n ⟨some d, op, ty, pos, after, none⟩ τ S1 v) (hy2 : Yld P w0 D n ⟨some d, op, ty, pos, after, none⟩ τ S2 v)
    (h : WB P w0 D n ops S1 S2 Q fuel (listed.setIfInBounds i true) ((d, v) :: τ) H) : WB P w0 D n ops S1 S2 Q (fuel + 1) listed τ H :=
  ⟨fun a w ha hw => wpAnyH_take hi hs hf hr (fun _ _ _ h => h) (.inl ⟨by simp [Region.wanted], fun w' hw' => hw'.elim (hy.go a w' ha) (hy2.go a w' ha)⟩) (.inr (hw.pick hp)) (h.go _ w (ha.put (some d) v hd) hw)⟩
theorem WB.one {S1 S2 : List Item} (i : Nat) {o : Oper} {fuel : Nat} {listed : Array Bool} (hr : Region.ready .any ops listed = [i]) (hi : ops[i]? = some o) (hg : o.guard = none)
    (h : StepTo P w0 D n o τ H fun τ' H' => ((∃ idx, Pick idx H' S1) ∨ (∃ idx, Pick idx H' S2)) ∧ WB P w0 D n ops S1 S2 Q fuel (listed.setIfInBounds i true) τ' H') : WB P w0 D n ops S1 S2 Q (fuel + 1) listed τ H :=
  ⟨fun a w ha hw => wpAnyH_all hr (by simp) fun j hj => by
    obtain rfl : j = i := by simpa using hj
    unfold wpOp
    simp only [hi]
    rw [if_pos (by simp [Region.wanted, hg])]
    exact .inl (h.go _ _ (fun τ' H' ⟨hp, hk⟩ a' w' ha' hw' => ⟨hp.imp (fun ⟨_, h⟩ => hw'.pick h) (fun ⟨_, h⟩ => hw'.pick h), hk.go a' w' ha' hw'⟩) a w ha hw)⟩
end
end Go.Proofs.Ythbhjnmkbmmcnaa
