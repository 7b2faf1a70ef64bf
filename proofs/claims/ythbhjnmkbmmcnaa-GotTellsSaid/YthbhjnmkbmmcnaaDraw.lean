/- Regions that draw their order, over symbolic states. Of whatever program. -/
import Derived.Test.YthbhjnmkbmmcnaaEqs
import Derived.Deep.Quiet
import Derived.Deep.RegionHeld3
import Derived.OrdersHeld
namespace Go.Proofs.Ythbhjnmkbmmcnaa
open Go.RowKit Go.IntWalk
set_option linter.unusedVariables false
set_option linter.unusedSectionVars false

section
variable {P : Program} {w0 : World} {D : Nat → Prop} {n : Nat} [Dfr] {Q : Exit → Act → World → Prop} {τ : Tm} {H H' : List Item} {ops : Array Oper} {l : List Oper} {v : Value}
/-! ### All is quiet: the order of the text serves every order -/
structure WK (P : Program) (w0 : World) (D : Nat → Prop) (n : Nat) (ops : Array Oper) (H : List Item) (Q : Exit → Act → World → Prop) (l : List Oper) (τ : Tm) : Prop where
  go : ∀ a, Has n τ a → wpQuiet P ops (Sat w0 D H) (fun a' => ∀ w', Sat w0 D H w' → Q .normal a' w') l a
theorem WC.quiet {i : Nat} (hm : P.follows .mixedOrders = true) (hB : Region.lexB .any l.toArray = true) (h : WK P w0 D n l.toArray H Q l τ) : WC P w0 D n (.region i l.toArray true) Q τ H :=
  ⟨fun a w ha hw => wp_region_quiet (C := Sat w0 D H) hm hB hw.drew (by simpa using h.go a ha)⟩
theorem WK.nil (h : WQ w0 D n (Q .normal) τ H) : WK P w0 D n ops H Q [] τ := ⟨fun a ha w hw => h.go a w ha hw⟩
/-- In each of the worlds the operation yields v, and leaves one of them. -/
structure Qui (P : Program) (w0 : World) (D : Nat → Prop) (n : Nat) (o : Oper) (τ : Tm) (H : List Item) (v : Value) : Prop where
  go : ∀ a, Has n τ a → ∀ w, Sat w0 D H w → o.quietAt P a (Sat w0 D H) w v
theorem Yld.qui {o : Oper} (h : Yld P w0 D n o τ H v) : Qui P w0 D n o τ H v := ⟨fun a ha w hw => by
  unfold Oper.quietAt
  rw [h.go a w ha hw]
  exact ⟨rfl, rfl⟩⟩
theorem Qui.call {o : Oper} {F : Operand} {args : Array Operand} {tys : Array TypeId} {vs us : List Value} {f : FuncId} (ho : o.op = .call { callee := .value F, args := args, argTypes := tys })
    (ha : evls τ args.toList = some vs) (hF : funV vs (evl τ F) = some (f, us)) (hB : callsB P f = true)
    (h : ∀ w, Sat w0 D H w → Calls P f us.toArray w fun e w' => e = .returned v ∧ Below w.heap.size w w') : Qui P w0 D n o τ H v := ⟨fun a hA w hw => by
  obtain ⟨first, captured, hfv, rfl⟩ := funV_some hF
  have hrun : (execOp a.eval o).run P w = .ok (.enter f (first.toList ++ vs ++ captured.toList).toArray) w := by
    have hm : args.map a.eval = vs.toArray := by
      rw [← evls_eq hA _ _ ha]; exact Array.ext' (by simp)
    have he := hA.ev hfv
    simp [execOp, ho, resolve, he, hm, Deferred.ofValue, invoke, run_callFunc hB]
  unfold Oper.quietAt
  rw [hrun]
  exact ⟨rfl, (h w hw).mono fun e w' ⟨he, hb⟩ => ⟨he, hw.below hb⟩⟩⟩
theorem WK.step {d : Nat} {op : Op} {ty : TypeId} {pos : String} {after : Array Edge} (hd : Nat.blt d n = true) (h : Qui P w0 D n ⟨some d, op, ty, pos, after, none⟩ τ H v) (hK : WK P w0 D n ops H Q l ((d, v) :: τ)) :
    WK P w0 D n ops H Q (⟨some d, op, ty, pos, after, none⟩ :: l) τ :=
  ⟨fun a ha => by
    unfold wpQuiet
    rw [if_pos (by simp [Region.wanted])]
    exact ⟨v, fun w hw => h.go a ha w hw, hK.go _ (ha.put (some d) v hd)⟩⟩
theorem WK.yld {d : Nat} {op : Op} {ty : TypeId} {pos : String} {after : Array Edge} (hd : Nat.blt d n = true) (h : Yld P w0 D n ⟨some d, op, ty, pos, after, none⟩ τ H v) (hK : WK P w0 D n ops H Q l ((d, v) :: τ)) :
    WK P w0 D n ops H Q (⟨some d, op, ty, pos, after, none⟩ :: l) τ := WK.step hd h.qui hK
theorem WK.stepG {d j : Nat} {op : Op} {ty : TypeId} {pos : String} {after : Array Edge} {want b : Bool} {jt : Tmp} {oj : Oper} (hd : Nat.blt d n = true) (hj : ops[j]? = some oj) (hjd : oj.dst = some jt) (hb : look τ jt = some (.bool b)) (hw : b = want)
    (h : Qui P w0 D n ⟨some d, op, ty, pos, after, some (j, want)⟩ τ H v) (hK : WK P w0 D n ops H Q l ((d, v) :: τ)) :
    WK P w0 D n ops H Q (⟨some d, op, ty, pos, after, some (j, want)⟩ :: l) τ :=
  ⟨fun a ha => by
    unfold wpQuiet
    have hy : yielded ops a.tmps j = some b := by simp [yielded, hj, hjd, ha.at_ jt _ hb]
    rw [if_pos (by simp [Region.wanted, hy, hw])]
    exact ⟨v, fun w hw => h.go a ha w hw, hK.go _ (ha.put (some d) v hd)⟩⟩
theorem WK.yldG {d j : Nat} {op : Op} {ty : TypeId} {pos : String} {after : Array Edge} {want b : Bool} {jt : Tmp} {oj : Oper} (hd : Nat.blt d n = true) (hj : ops[j]? = some oj) (hjd : oj.dst = some jt) (hb : look τ jt = some (.bool b)) (hw : b = want)
    (h : Yld P w0 D n ⟨some d, op, ty, pos, after, some (j, want)⟩ τ H v) (hK : WK P w0 D n ops H Q l ((d, v) :: τ)) :
    WK P w0 D n ops H Q (⟨some d, op, ty, pos, after, some (j, want)⟩ :: l) τ := WK.stepG hd hj hjd hb hw h.qui hK
theorem WK.skip {d j : Nat} {op : Op} {ty : TypeId} {pos : String} {after : Array Edge} {want b : Bool} {jt : Tmp} {oj : Oper} (hd : Nat.blt d n = true) (hj : ops[j]? = some oj) (hjd : oj.dst = some jt) (hb : look τ jt = some (.bool b)) (hw : b = !want)
    (hK : WK P w0 D n ops H Q l ((d, undef) :: τ)) : WK P w0 D n ops H Q (⟨some d, op, ty, pos, after, some (j, want)⟩ :: l) τ :=
  ⟨fun a ha => by
    unfold wpQuiet
    have hy : yielded ops a.tmps j = some b := by simp [yielded, hj, hjd, ha.at_ jt _ hb]
    rw [if_neg (by simp [Region.wanted, hy, hw])]
    exact hK.go _ (ha.put (some d) undef hd)⟩
theorem WK.cases {j : Nat} {dst : Option Tmp} {op : Op} {ty : TypeId} {pos : String} {after : Array Edge} {want b : Bool} {jt : Tmp} {oj : Oper} (hj : ops[j]? = some oj) (hjd : oj.dst = some jt) (hb : look τ jt = some (.bool b))
    (h1 : b = true → WK P w0 D n ops H Q (⟨dst, op, ty, pos, after, some (j, want)⟩ :: l) τ) (h2 : b = false → WK P w0 D n ops H Q (⟨dst, op, ty, pos, after, some (j, want)⟩ :: l) τ) :
    WK P w0 D n ops H Q (⟨dst, op, ty, pos, after, some (j, want)⟩ :: l) τ := by
  cases b
  · exact h2 rfl
  · exact h1 rfl
theorem WL.cases {j : Nat} {dst : Option Tmp} {op : Op} {ty : TypeId} {pos : String} {after : Array Edge} {want b : Bool} {jt : Tmp} {oj : Oper} (hj : ops[j]? = some oj) (hjd : oj.dst = some jt) (hb : look τ jt = some (.bool b))
    (h1 : b = true → WL P w0 D n ops Q (⟨dst, op, ty, pos, after, some (j, want)⟩ :: l) τ H) (h2 : b = false → WL P w0 D n ops Q (⟨dst, op, ty, pos, after, some (j, want)⟩ :: l) τ H) :
    WL P w0 D n ops Q (⟨dst, op, ty, pos, after, some (j, want)⟩ :: l) τ H := by
  cases b
  · exact h2 rfl
  · exact h1 rfl
theorem WK.casesP {j : Nat} {dst : Option Tmp} {op : Op} {ty : TypeId} {pos : String} {after : Array Edge} {want : Bool} {jt : Tmp} {oj : Oper} {p : Prop} [Decidable p] (hj : ops[j]? = some oj) (hjd : oj.dst = some jt) (hb : look τ jt = some (.bool (decide p)))
    (h1 : p → WK P w0 D n ops H Q (⟨dst, op, ty, pos, after, some (j, want)⟩ :: l) τ) (h2 : ¬ p → WK P w0 D n ops H Q (⟨dst, op, ty, pos, after, some (j, want)⟩ :: l) τ) : WK P w0 D n ops H Q (⟨dst, op, ty, pos, after, some (j, want)⟩ :: l) τ :=
  WK.cases hj hjd hb (fun h => h1 (of_decide_eq_true h)) (fun h => h2 (of_decide_eq_false h))
theorem WK.casesE {j : Nat} {dst : Option Tmp} {op : Op} {ty : TypeId} {pos : String} {after : Array Edge} {want : Bool} {jt : Tmp} {oj : Oper} {p q : Int} (hj : ops[j]? = some oj) (hjd : oj.dst = some jt) (hb : look τ jt = some (.bool (p == q)))
    (h1 : p = q → WK P w0 D n ops H Q (⟨dst, op, ty, pos, after, some (j, want)⟩ :: l) τ) (h2 : p ≠ q → WK P w0 D n ops H Q (⟨dst, op, ty, pos, after, some (j, want)⟩ :: l) τ) : WK P w0 D n ops H Q (⟨dst, op, ty, pos, after, some (j, want)⟩ :: l) τ :=
  WK.cases hj hjd hb (fun h => h1 (by simpa using h)) (fun h => h2 (by simpa using h))
theorem WK.casesN {j : Nat} {dst : Option Tmp} {op : Op} {ty : TypeId} {pos : String} {after : Array Edge} {want : Bool} {jt : Tmp} {oj : Oper} {p q : Int} (hj : ops[j]? = some oj) (hjd : oj.dst = some jt) (hb : look τ jt = some (.bool (p != q)))
    (h1 : p ≠ q → WK P w0 D n ops H Q (⟨dst, op, ty, pos, after, some (j, want)⟩ :: l) τ) (h2 : p = q → WK P w0 D n ops H Q (⟨dst, op, ty, pos, after, some (j, want)⟩ :: l) τ) : WK P w0 D n ops H Q (⟨dst, op, ty, pos, after, some (j, want)⟩ :: l) τ :=
  WK.cases hj hjd hb (fun h => h1 (by simpa using h)) (fun h => h2 (by simpa using h))
theorem WL.casesP {j : Nat} {dst : Option Tmp} {op : Op} {ty : TypeId} {pos : String} {after : Array Edge} {want : Bool} {jt : Tmp} {oj : Oper} {p : Prop} [Decidable p] (hj : ops[j]? = some oj) (hjd : oj.dst = some jt) (hb : look τ jt = some (.bool (decide p)))
    (h1 : p → WL P w0 D n ops Q (⟨dst, op, ty, pos, after, some (j, want)⟩ :: l) τ H) (h2 : ¬ p → WL P w0 D n ops Q (⟨dst, op, ty, pos, after, some (j, want)⟩ :: l) τ H) : WL P w0 D n ops Q (⟨dst, op, ty, pos, after, some (j, want)⟩ :: l) τ H :=
  WL.cases hj hjd hb (fun h => h1 (of_decide_eq_true h)) (fun h => h2 (of_decide_eq_false h))
theorem WL.casesE {j : Nat} {dst : Option Tmp} {op : Op} {ty : TypeId} {pos : String} {after : Array Edge} {want : Bool} {jt : Tmp} {oj : Oper} {p q : Int} (hj : ops[j]? = some oj) (hjd : oj.dst = some jt) (hb : look τ jt = some (.bool (p == q)))
    (h1 : p = q → WL P w0 D n ops Q (⟨dst, op, ty, pos, after, some (j, want)⟩ :: l) τ H) (h2 : p ≠ q → WL P w0 D n ops Q (⟨dst, op, ty, pos, after, some (j, want)⟩ :: l) τ H) : WL P w0 D n ops Q (⟨dst, op, ty, pos, after, some (j, want)⟩ :: l) τ H :=
  WL.cases hj hjd hb (fun h => h1 (by simpa using h)) (fun h => h2 (by simpa using h))
theorem WL.casesN {j : Nat} {dst : Option Tmp} {op : Op} {ty : TypeId} {pos : String} {after : Array Edge} {want : Bool} {jt : Tmp} {oj : Oper} {p q : Int} (hj : ops[j]? = some oj) (hjd : oj.dst = some jt) (hb : look τ jt = some (.bool (p != q)))
    (h1 : p ≠ q → WL P w0 D n ops Q (⟨dst, op, ty, pos, after, some (j, want)⟩ :: l) τ H) (h2 : p = q → WL P w0 D n ops Q (⟨dst, op, ty, pos, after, some (j, want)⟩ :: l) τ H) : WL P w0 D n ops Q (⟨dst, op, ty, pos, after, some (j, want)⟩ :: l) τ H :=
  WL.cases hj hjd hb (fun h => h1 (by simpa using h)) (fun h => h2 (by simpa using h))
/-! ### Loads beside what makes or writes memory: what is quiet is taken first -/
structure WA (P : Program) (w0 : World) (D : Nat → Prop) (n : Nat) (ops : Array Oper) (S : List Item) (Q : Exit → Act → World → Prop) (fuel : Nat) (listed : Array Bool) (τ : Tm) (H : List Item) : Prop where
  go : ∀ a w, Has n τ a → Sat w0 D H w → wpAnyH P .any ops (NoPanic Q) (Sat w0 D S) fuel listed a w
theorem WC.any (S : List Item) {i : Nat} (hm : P.follows .mixedOrders = true) (h : WA P w0 D n ops S Q ops.size (Array.replicate ops.size false) τ H) : WC P w0 D n (.region i ops true) Q τ H :=
  ⟨fun a w ha hw => wp_region_noPanic (wp_region_held (S := Sat w0 D S) hm (h.go a _ ha hw.drew))⟩
theorem WC.anyI (idx : List Nat) {i : Nat} (hm : P.follows .mixedOrders = true) (h : WA P w0 D n ops (sel H idx) Q ops.size (Array.replicate ops.size false) τ H) : WC P w0 D n (.region i ops true) Q τ H := WC.any _ hm h
theorem WA.done {S : List Item} {fuel : Nat} {listed : Array Bool} (hr : Region.ready .any ops listed = []) (h : WQ w0 D n (Q .normal) τ H) : WA P w0 D n ops S Q fuel listed τ H :=
  ⟨fun a w ha hw => wpAnyH_done (Q := NoPanic Q) hr (h.go a w ha hw) fuel⟩
theorem WA.take {S : List Item} {idx : List Nat} (i : Nat) {d : Nat} {op : Op} {ty : TypeId} {pos : String} {after : Array Edge} {fuel : Nat} {listed : Array Bool} (hi : ops[i]? = some ⟨some d, op, ty, pos, after, none⟩) (hs : Region.noSelect ops = true)
    (hf : Region.free .any ops listed i = true) (hr : (Region.ready .any ops listed).contains i = true) (hd : Nat.blt d n = true) (hp : Pick idx H S) (hy : Yld P w0 D n ⟨some d, op, ty, pos, after, none⟩ τ S v)
    (h : WA P w0 D n ops S Q fuel (listed.setIfInBounds i true) ((d, v) :: τ) H) : WA P w0 D n ops S Q (fuel + 1) listed τ H :=
  ⟨fun a w ha hw => wpAnyH_take hi hs hf hr (fun _ _ _ h => h) (.inl ⟨by simp [Region.wanted], fun w' hw' => hy.go a w' ha hw'⟩) (hw.pick hp) (h.go _ w (ha.put (some d) v hd) hw)⟩
/-- One operation alone may come up. -/
theorem WA.one {S : List Item} (i : Nat) {o : Oper} {fuel : Nat} {listed : Array Bool} (hr : Region.ready .any ops listed = [i]) (hi : ops[i]? = some o) (hg : o.guard = none)
    (h : StepTo P w0 D n o τ H fun τ' H' => (∃ idx, Pick idx H' S) ∧ WA P w0 D n ops S Q fuel (listed.setIfInBounds i true) τ' H') : WA P w0 D n ops S Q (fuel + 1) listed τ H :=
  ⟨fun a w ha hw => wpAnyH_all hr (by simp) fun j hj => by
    obtain rfl : j = i := by simpa using hj
    unfold wpOp
    simp only [hi]
    rw [if_pos (by simp [Region.wanted, hg])]
    exact .inl (h.go _ _ (fun τ' H' ⟨⟨idx, hp⟩, hk⟩ a' w' ha' hw' => ⟨hw'.pick hp, hk.go a' w' ha' hw'⟩) a w ha hw)⟩
theorem WA.three {S : List Item} (i j k : Nat) {o u x : Oper} {fuel : Nat} {listed : Array Bool} (hr : Region.ready .any ops listed = [i, j, k]) (hi : ops[i]? = some o) (hg : o.guard = none) (hj : ops[j]? = some u) (hgj : u.guard = none) (hk : ops[k]? = some x) (hgk : x.guard = none)
    (h : StepTo P w0 D n o τ H fun τ' H' => (∃ idx, Pick idx H' S) ∧ WA P w0 D n ops S Q fuel (listed.setIfInBounds i true) τ' H')
    (h2 : StepTo P w0 D n u τ H fun τ' H' => (∃ idx, Pick idx H' S) ∧ WA P w0 D n ops S Q fuel (listed.setIfInBounds j true) τ' H')
    (h3 : StepTo P w0 D n x τ H fun τ' H' => (∃ idx, Pick idx H' S) ∧ WA P w0 D n ops S Q fuel (listed.setIfInBounds k true) τ' H') : WA P w0 D n ops S Q (fuel + 1) listed τ H :=
  ⟨fun a w ha hw => wpAnyH_all hr (by simp) fun q hq => by
    have hq' : q = i ∨ q = j ∨ q = k := by simpa using hq
    rcases hq' with rfl | rfl | rfl
    · unfold wpOp
      simp only [hi]
      rw [if_pos (by simp [Region.wanted, hg])]
      exact .inl (h.go _ _ (fun τ' H' ⟨⟨idx, hp⟩, hk⟩ a' w' ha' hw' => ⟨hw'.pick hp, hk.go a' w' ha' hw'⟩) a w ha hw)
    · unfold wpOp
      simp only [hj]
      rw [if_pos (by simp [Region.wanted, hgj])]
      exact .inl (h2.go _ _ (fun τ' H' ⟨⟨idx, hp⟩, hk⟩ a' w' ha' hw' => ⟨hw'.pick hp, hk.go a' w' ha' hw'⟩) a w ha hw)
    · unfold wpOp
      simp only [hk]
      rw [if_pos (by simp [Region.wanted, hgk])]
      exact .inl (h3.go _ _ (fun τ' H' ⟨⟨idx, hp⟩, hk⟩ a' w' ha' hw' => ⟨hw'.pick hp, hk.go a' w' ha' hw'⟩) a w ha hw)⟩
theorem WA.two {S : List Item} (i j : Nat) {o u : Oper} {fuel : Nat} {listed : Array Bool} (hr : Region.ready .any ops listed = [i, j]) (hi : ops[i]? = some o) (hg : o.guard = none) (hj : ops[j]? = some u) (hgj : u.guard = none)
    (h : StepTo P w0 D n o τ H fun τ' H' => (∃ idx, Pick idx H' S) ∧ WA P w0 D n ops S Q fuel (listed.setIfInBounds i true) τ' H')
    (h2 : StepTo P w0 D n u τ H fun τ' H' => (∃ idx, Pick idx H' S) ∧ WA P w0 D n ops S Q fuel (listed.setIfInBounds j true) τ' H') : WA P w0 D n ops S Q (fuel + 1) listed τ H :=
  ⟨fun a w ha hw => wpAnyH_all hr (by simp) fun k hk => by
    have hk' : k = i ∨ k = j := by simpa using hk
    rcases hk' with rfl | rfl
    · unfold wpOp
      simp only [hi]
      rw [if_pos (by simp [Region.wanted, hg])]
      exact .inl (h.go _ _ (fun τ' H' ⟨⟨idx, hp⟩, hk⟩ a' w' ha' hw' => ⟨hw'.pick hp, hk.go a' w' ha' hw'⟩) a w ha hw)
    · unfold wpOp
      simp only [hj]
      rw [if_pos (by simp [Region.wanted, hgj])]
      exact .inl (h2.go _ _ (fun τ' H' ⟨⟨idx, hp⟩, hk⟩ a' w' ha' hw' => ⟨hw'.pick hp, hk.go a' w' ha' hw'⟩) a w ha hw)⟩
theorem WA.takeG {S : List Item} {idx : List Nat} (i : Nat) {d j : Nat} {op : Op} {ty : TypeId} {pos : String} {after : Array Edge} {want b : Bool} {jt : Tmp} {oj : Oper} {fuel : Nat} {listed : Array Bool} (hi : ops[i]? = some ⟨some d, op, ty, pos, after, some (j, want)⟩) (hs : Region.noSelect ops = true)
    (hf : Region.free .any ops listed i = true) (hr : (Region.ready .any ops listed).contains i = true) (hd : Nat.blt d n = true) (hp : Pick idx H S) (hj : ops[j]? = some oj) (hjd : oj.dst = some jt) (hb : look τ jt = some (.bool b)) (hw : b = want)
    (hy : Yld P w0 D n ⟨some d, op, ty, pos, after, some (j, want)⟩ τ S v)
    (h : WA P w0 D n ops S Q fuel (listed.setIfInBounds i true) ((d, v) :: τ) H) : WA P w0 D n ops S Q (fuel + 1) listed τ H :=
  ⟨fun a w ha hw' => wpAnyH_take hi hs hf hr (fun _ _ _ h => h) (.inl ⟨by
    have hy' : yielded ops a.tmps j = some b := by simp [yielded, hj, hjd, ha.at_ jt _ hb]
    simp [Region.wanted, hy', hw], fun w' hw' => hy.go a w' ha hw'⟩) (hw'.pick hp) (h.go _ w (ha.put (some d) v hd) hw')⟩
theorem WA.skip {S : List Item} {idx : List Nat} (i : Nat) {d j : Nat} {op : Op} {ty : TypeId} {pos : String} {after : Array Edge} {want b : Bool} {jt : Tmp} {oj : Oper} {fuel : Nat} {listed : Array Bool} (hi : ops[i]? = some ⟨some d, op, ty, pos, after, some (j, want)⟩) (hs : Region.noSelect ops = true)
    (hf : Region.free .any ops listed i = true) (hr : (Region.ready .any ops listed).contains i = true) (hd : Nat.blt d n = true) (hp : Pick idx H S) (hj : ops[j]? = some oj) (hjd : oj.dst = some jt) (hb : look τ jt = some (.bool b)) (hw : b = !want)
    (h : WA P w0 D n ops S Q fuel (listed.setIfInBounds i true) ((d, undef) :: τ) H) : WA P w0 D n ops S Q (fuel + 1) listed τ H :=
  ⟨fun a w ha hw' => wpAnyH_take hi hs hf hr (fun _ _ _ h => h) (.inr ⟨by
    have hy' : yielded ops a.tmps j = some b := by simp [yielded, hj, hjd, ha.at_ jt _ hb]
    simp [Region.wanted, hy', hw], rfl⟩) (hw'.pick hp) (h.go _ w (ha.put (some d) undef hd) hw')⟩
/-! ### Guards, met or not -/
theorem WK.skipT {d j : Nat} {op : Op} {ty : TypeId} {pos : String} {after : Array Edge} {b : Bool} {jt : Tmp} {oj : Oper} (hd : Nat.blt d n = true) (hj : ops[j]? = some oj) (hjd : oj.dst = some jt) (hb : look τ jt = some (.bool b)) (hw : b = false) (hK : WK P w0 D n ops H Q l ((d, undef) :: τ)) : WK P w0 D n ops H Q (⟨some d, op, ty, pos, after, some (j, true)⟩ :: l) τ := WK.skip hd hj hjd hb hw hK
theorem WK.yldT {d j : Nat} {op : Op} {ty : TypeId} {pos : String} {after : Array Edge} {b : Bool} {jt : Tmp} {oj : Oper} (hd : Nat.blt d n = true) (hj : ops[j]? = some oj) (hjd : oj.dst = some jt) (hb : look τ jt = some (.bool b)) (hw : b = true) (h : Yld P w0 D n ⟨some d, op, ty, pos, after, some (j, true)⟩ τ H v) (hK : WK P w0 D n ops H Q l ((d, v) :: τ)) : WK P w0 D n ops H Q (⟨some d, op, ty, pos, after, some (j, true)⟩ :: l) τ := WK.yldG hd hj hjd hb hw h hK
theorem WL.skipT {d j : Nat} {op : Op} {ty : TypeId} {pos : String} {after : Array Edge} {b : Bool} {jt : Tmp} {oj : Oper} (hd : Nat.blt d n = true) (hj : ops[j]? = some oj) (hjd : oj.dst = some jt) (hb : look τ jt = some (.bool b)) (hw : b = false) (hK : WL P w0 D n ops Q l ((d, undef) :: τ) H) : WL P w0 D n ops Q (⟨some d, op, ty, pos, after, some (j, true)⟩ :: l) τ H := WL.skip hd hj hjd hb hw hK
theorem WL.yldT {d j : Nat} {op : Op} {ty : TypeId} {pos : String} {after : Array Edge} {b : Bool} {jt : Tmp} {oj : Oper} (hd : Nat.blt d n = true) (hj : ops[j]? = some oj) (hjd : oj.dst = some jt) (hb : look τ jt = some (.bool b)) (hw : b = true) (h : Yld P w0 D n ⟨some d, op, ty, pos, after, some (j, true)⟩ τ H v) (hK : WL P w0 D n ops Q l ((d, v) :: τ) H) : WL P w0 D n ops Q (⟨some d, op, ty, pos, after, some (j, true)⟩ :: l) τ H := WL.yldG hd hj hjd hb hw h hK
theorem WK.stepT {d j : Nat} {op : Op} {ty : TypeId} {pos : String} {after : Array Edge} {b : Bool} {jt : Tmp} {oj : Oper} (hd : Nat.blt d n = true) (hj : ops[j]? = some oj) (hjd : oj.dst = some jt) (hb : look τ jt = some (.bool b)) (hw : b = true) (h : Qui P w0 D n ⟨some d, op, ty, pos, after, some (j, true)⟩ τ H v) (hK : WK P w0 D n ops H Q l ((d, v) :: τ)) : WK P w0 D n ops H Q (⟨some d, op, ty, pos, after, some (j, true)⟩ :: l) τ := WK.stepG hd hj hjd hb hw h hK
theorem WK.skipF {d j : Nat} {op : Op} {ty : TypeId} {pos : String} {after : Array Edge} {b : Bool} {jt : Tmp} {oj : Oper} (hd : Nat.blt d n = true) (hj : ops[j]? = some oj) (hjd : oj.dst = some jt) (hb : look τ jt = some (.bool b)) (hw : b = true) (hK : WK P w0 D n ops H Q l ((d, undef) :: τ)) : WK P w0 D n ops H Q (⟨some d, op, ty, pos, after, some (j, false)⟩ :: l) τ := WK.skip hd hj hjd hb hw hK
theorem WK.yldF {d j : Nat} {op : Op} {ty : TypeId} {pos : String} {after : Array Edge} {b : Bool} {jt : Tmp} {oj : Oper} (hd : Nat.blt d n = true) (hj : ops[j]? = some oj) (hjd : oj.dst = some jt) (hb : look τ jt = some (.bool b)) (hw : b = false) (h : Yld P w0 D n ⟨some d, op, ty, pos, after, some (j, false)⟩ τ H v) (hK : WK P w0 D n ops H Q l ((d, v) :: τ)) : WK P w0 D n ops H Q (⟨some d, op, ty, pos, after, some (j, false)⟩ :: l) τ := WK.yldG hd hj hjd hb hw h hK
theorem WL.skipF {d j : Nat} {op : Op} {ty : TypeId} {pos : String} {after : Array Edge} {b : Bool} {jt : Tmp} {oj : Oper} (hd : Nat.blt d n = true) (hj : ops[j]? = some oj) (hjd : oj.dst = some jt) (hb : look τ jt = some (.bool b)) (hw : b = true) (hK : WL P w0 D n ops Q l ((d, undef) :: τ) H) : WL P w0 D n ops Q (⟨some d, op, ty, pos, after, some (j, false)⟩ :: l) τ H := WL.skip hd hj hjd hb hw hK
theorem WL.yldF {d j : Nat} {op : Op} {ty : TypeId} {pos : String} {after : Array Edge} {b : Bool} {jt : Tmp} {oj : Oper} (hd : Nat.blt d n = true) (hj : ops[j]? = some oj) (hjd : oj.dst = some jt) (hb : look τ jt = some (.bool b)) (hw : b = false) (h : Yld P w0 D n ⟨some d, op, ty, pos, after, some (j, false)⟩ τ H v) (hK : WL P w0 D n ops Q l ((d, v) :: τ) H) : WL P w0 D n ops Q (⟨some d, op, ty, pos, after, some (j, false)⟩ :: l) τ H := WL.yldG hd hj hjd hb hw h hK
theorem WK.stepF {d j : Nat} {op : Op} {ty : TypeId} {pos : String} {after : Array Edge} {b : Bool} {jt : Tmp} {oj : Oper} (hd : Nat.blt d n = true) (hj : ops[j]? = some oj) (hjd : oj.dst = some jt) (hb : look τ jt = some (.bool b)) (hw : b = false) (h : Qui P w0 D n ⟨some d, op, ty, pos, after, some (j, false)⟩ τ H v) (hK : WK P w0 D n ops H Q l ((d, v) :: τ)) : WK P w0 D n ops H Q (⟨some d, op, ty, pos, after, some (j, false)⟩ :: l) τ := WK.stepG hd hj hjd hb hw h hK
/-! ### A guard that lets its operation run -/
theorem WL.open {j : Nat} {dst : Option Tmp} {op : Op} {ty : TypeId} {pos : String} {after : Array Edge} {want b : Bool} {jt : Tmp} {oj : Oper} (hj : ops[j]? = some oj) (hjd : oj.dst = some jt) (hb : look τ jt = some (.bool b)) (hw : b = want)
    (hK : WL P w0 D n ops Q (⟨dst, op, ty, pos, after, none⟩ :: l) τ H) : WL P w0 D n ops Q (⟨dst, op, ty, pos, after, some (j, want)⟩ :: l) τ H :=
  ⟨fun a w ha hw' => by
    have h := hK.go a w ha hw'
    have hy : yielded ops a.tmps j = some b := by simp [yielded, hj, hjd, ha.at_ jt _ hb]
    unfold wpList at h ⊢
    rw [if_pos (by simp [Region.wanted])] at h
    rw [if_pos (by simp [Region.wanted, hy, hw])]
    exact h⟩
theorem WK.open {j : Nat} {dst : Option Tmp} {op : Op} {ty : TypeId} {pos : String} {after : Array Edge} {want b : Bool} {jt : Tmp} {oj : Oper} (hj : ops[j]? = some oj) (hjd : oj.dst = some jt) (hb : look τ jt = some (.bool b)) (hw : b = want)
    (hK : WK P w0 D n ops H Q (⟨dst, op, ty, pos, after, none⟩ :: l) τ) : WK P w0 D n ops H Q (⟨dst, op, ty, pos, after, some (j, want)⟩ :: l) τ :=
  ⟨fun a ha => by
    have h := hK.go a ha
    have hy : yielded ops a.tmps j = some b := by simp [yielded, hj, hjd, ha.at_ jt _ hb]
    unfold wpQuiet at h ⊢
    rw [if_pos (by simp [Region.wanted])] at h
    rw [if_pos (by simp [Region.wanted, hy, hw])]
    exact h⟩
theorem WL.runT {j : Nat} {dst : Option Tmp} {op : Op} {ty : TypeId} {pos : String} {after : Array Edge} {b : Bool} {jt : Tmp} {oj : Oper} (hj : ops[j]? = some oj) (hjd : oj.dst = some jt) (hb : look τ jt = some (.bool b)) (hw : b = true) (hK : WL P w0 D n ops Q (⟨dst, op, ty, pos, after, none⟩ :: l) τ H) : WL P w0 D n ops Q (⟨dst, op, ty, pos, after, some (j, true)⟩ :: l) τ H := WL.open hj hjd hb hw hK
theorem WL.isT {j : Nat} {dst : Option Tmp} {op : Op} {ty : TypeId} {pos : String} {after : Array Edge} (h : WL P w0 D n ops Q (⟨dst, op, ty, pos, after, some (j, true)⟩ :: l) τ H) : WL P w0 D n ops Q (⟨dst, op, ty, pos, after, some (j, true)⟩ :: l) τ H := h
theorem WL.runF {j : Nat} {dst : Option Tmp} {op : Op} {ty : TypeId} {pos : String} {after : Array Edge} {b : Bool} {jt : Tmp} {oj : Oper} (hj : ops[j]? = some oj) (hjd : oj.dst = some jt) (hb : look τ jt = some (.bool b)) (hw : b = false) (hK : WL P w0 D n ops Q (⟨dst, op, ty, pos, after, none⟩ :: l) τ H) : WL P w0 D n ops Q (⟨dst, op, ty, pos, after, some (j, false)⟩ :: l) τ H := WL.open hj hjd hb hw hK
theorem WL.isF {j : Nat} {dst : Option Tmp} {op : Op} {ty : TypeId} {pos : String} {after : Array Edge} (h : WL P w0 D n ops Q (⟨dst, op, ty, pos, after, some (j, false)⟩ :: l) τ H) : WL P w0 D n ops Q (⟨dst, op, ty, pos, after, some (j, false)⟩ :: l) τ H := h
theorem WK.runT {j : Nat} {dst : Option Tmp} {op : Op} {ty : TypeId} {pos : String} {after : Array Edge} {b : Bool} {jt : Tmp} {oj : Oper} (hj : ops[j]? = some oj) (hjd : oj.dst = some jt) (hb : look τ jt = some (.bool b)) (hw : b = true) (hK : WK P w0 D n ops H Q (⟨dst, op, ty, pos, after, none⟩ :: l) τ) : WK P w0 D n ops H Q (⟨dst, op, ty, pos, after, some (j, true)⟩ :: l) τ := WK.open hj hjd hb hw hK
theorem WK.isT {j : Nat} {dst : Option Tmp} {op : Op} {ty : TypeId} {pos : String} {after : Array Edge} (h : WK P w0 D n ops H Q (⟨dst, op, ty, pos, after, some (j, true)⟩ :: l) τ) : WK P w0 D n ops H Q (⟨dst, op, ty, pos, after, some (j, true)⟩ :: l) τ := h
theorem WK.runF {j : Nat} {dst : Option Tmp} {op : Op} {ty : TypeId} {pos : String} {after : Array Edge} {b : Bool} {jt : Tmp} {oj : Oper} (hj : ops[j]? = some oj) (hjd : oj.dst = some jt) (hb : look τ jt = some (.bool b)) (hw : b = false) (hK : WK P w0 D n ops H Q (⟨dst, op, ty, pos, after, none⟩ :: l) τ) : WK P w0 D n ops H Q (⟨dst, op, ty, pos, after, some (j, false)⟩ :: l) τ := WK.open hj hjd hb hw hK
theorem WK.isF {j : Nat} {dst : Option Tmp} {op : Op} {ty : TypeId} {pos : String} {after : Array Edge} (h : WK P w0 D n ops H Q (⟨dst, op, ty, pos, after, some (j, false)⟩ :: l) τ) : WK P w0 D n ops H Q (⟨dst, op, ty, pos, after, some (j, false)⟩ :: l) τ := h
/-! ### Which operation comes next -/
theorem WL.isN_move {d : Option Tmp} {ty : TypeId} {pos : String} {af : Array Edge} {x : Operand} (h : WL P w0 D n ops Q (⟨d, .move x, ty, pos, af, none⟩ :: l) τ H) : WL P w0 D n ops Q (⟨d, .move x, ty, pos, af, none⟩ :: l) τ H := h
theorem WL.isN_assign {d : Option Tmp} {ty : TypeId} {pos : String} {af : Array Edge} {x : Operand} (h : WL P w0 D n ops Q (⟨d, .assign x, ty, pos, af, none⟩ :: l) τ H) : WL P w0 D n ops Q (⟨d, .assign x, ty, pos, af, none⟩ :: l) τ H := h
theorem WL.isN_bin {d : Option Tmp} {ty : TypeId} {pos : String} {af : Array Edge} {bo : BinOp} {T U : TypeId} {x y : Operand} (h : WL P w0 D n ops Q (⟨d, .binOp bo T x y U, ty, pos, af, none⟩ :: l) τ H) : WL P w0 D n ops Q (⟨d, .binOp bo T x y U, ty, pos, af, none⟩ :: l) τ H := h
theorem WL.isN_un {d : Option Tmp} {ty : TypeId} {pos : String} {af : Array Edge} {uo : UnOp} {T : TypeId} {x : Operand} (h : WL P w0 D n ops Q (⟨d, .unOp uo T x, ty, pos, af, none⟩ :: l) τ H) : WL P w0 D n ops Q (⟨d, .unOp uo T x, ty, pos, af, none⟩ :: l) τ H := h
theorem WL.isN_extract {d : Option Tmp} {ty : TypeId} {pos : String} {af : Array Edge} {x : Operand} {k : Nat} (h : WL P w0 D n ops Q (⟨d, .extract x k, ty, pos, af, none⟩ :: l) τ H) : WL P w0 D n ops Q (⟨d, .extract x k, ty, pos, af, none⟩ :: l) τ H := h
theorem WL.isN_nil {d : Option Tmp} {ty : TypeId} {pos : String} {af : Array Edge} {x : Operand} (h : WL P w0 D n ops Q (⟨d, .nilCheck x, ty, pos, af, none⟩ :: l) τ H) : WL P w0 D n ops Q (⟨d, .nilCheck x, ty, pos, af, none⟩ :: l) τ H := h
theorem WL.isN_load {d : Option Tmp} {ty : TypeId} {pos : String} {af : Array Edge} {T : TypeId} {x : Operand} (h : WL P w0 D n ops Q (⟨d, .load T x, ty, pos, af, none⟩ :: l) τ H) : WL P w0 D n ops Q (⟨d, .load T x, ty, pos, af, none⟩ :: l) τ H := h
theorem WL.isN_faddr {d : Option Tmp} {ty : TypeId} {pos : String} {af : Array Edge} {T : TypeId} {x : Operand} {k : Nat} (h : WL P w0 D n ops Q (⟨d, .fieldAddr T x k, ty, pos, af, none⟩ :: l) τ H) : WL P w0 D n ops Q (⟨d, .fieldAddr T x k, ty, pos, af, none⟩ :: l) τ H := h
theorem WL.isN_iaddr {d : Option Tmp} {ty : TypeId} {pos : String} {af : Array Edge} {T : TypeId} {x y : Operand} (h : WL P w0 D n ops Q (⟨d, .indexAddr T x y, ty, pos, af, none⟩ :: l) τ H) : WL P w0 D n ops Q (⟨d, .indexAddr T x y, ty, pos, af, none⟩ :: l) τ H := h
theorem WL.isN_conv {d : Option Tmp} {ty : TypeId} {pos : String} {af : Array Edge} {T U : TypeId} {x : Operand} (h : WL P w0 D n ops Q (⟨d, .convert T U x, ty, pos, af, none⟩ :: l) τ H) : WL P w0 D n ops Q (⟨d, .convert T U x, ty, pos, af, none⟩ :: l) τ H := h
theorem WL.isN_field {d : Option Tmp} {ty : TypeId} {pos : String} {af : Array Edge} {T : TypeId} {x : Operand} {k : Nat} (h : WL P w0 D n ops Q (⟨d, .field T x k, ty, pos, af, none⟩ :: l) τ H) : WL P w0 D n ops Q (⟨d, .field T x k, ty, pos, af, none⟩ :: l) τ H := h
theorem WL.isN_build {d : Option Tmp} {ty : TypeId} {pos : String} {af : Array Edge} {T : TypeId} {ps : Array (Nat × Operand)} (h : WL P w0 D n ops Q (⟨d, .build T ps, ty, pos, af, none⟩ :: l) τ H) : WL P w0 D n ops Q (⟨d, .build T ps, ty, pos, af, none⟩ :: l) τ H := h
theorem WL.isN_pick {d : Option Tmp} {ty : TypeId} {pos : String} {af : Array Edge} {x y z : Operand} (h : WL P w0 D n ops Q (⟨d, .pick x y z, ty, pos, af, none⟩ :: l) τ H) : WL P w0 D n ops Q (⟨d, .pick x y z, ty, pos, af, none⟩ :: l) τ H := h
theorem WL.isN_func {d : Option Tmp} {ty : TypeId} {pos : String} {af : Array Edge} {fn : Fn} {xs ys : Array Operand} (h : WL P w0 D n ops Q (⟨d, .makeFunc fn xs ys, ty, pos, af, none⟩ :: l) τ H) : WL P w0 D n ops Q (⟨d, .makeFunc fn xs ys, ty, pos, af, none⟩ :: l) τ H := h
theorem WL.isN_call {d : Option Tmp} {ty : TypeId} {pos : String} {af : Array Edge} {c : Call} (h : WL P w0 D n ops Q (⟨d, .call c, ty, pos, af, none⟩ :: l) τ H) : WL P w0 D n ops Q (⟨d, .call c, ty, pos, af, none⟩ :: l) τ H := h
theorem WL.isN_index {d : Option Tmp} {ty : TypeId} {pos : String} {af : Array Edge} {T : TypeId} {x y : Operand} (h : WL P w0 D n ops Q (⟨d, .index T x y, ty, pos, af, none⟩ :: l) τ H) : WL P w0 D n ops Q (⟨d, .index T x y, ty, pos, af, none⟩ :: l) τ H := h
theorem WL.isN_slice {d : Option Tmp} {ty : TypeId} {pos : String} {af : Array Edge} {T : TypeId} {x : Operand} {lo hi mx : Option Operand} (h : WL P w0 D n ops Q (⟨d, .slice T x lo hi mx, ty, pos, af, none⟩ :: l) τ H) : WL P w0 D n ops Q (⟨d, .slice T x lo hi mx, ty, pos, af, none⟩ :: l) τ H := h
theorem WL.isN_box {d : Option Tmp} {ty : TypeId} {pos : String} {af : Array Edge} {T : TypeId} {x : Operand} (h : WL P w0 D n ops Q (⟨d, .box T x, ty, pos, af, none⟩ :: l) τ H) : WL P w0 D n ops Q (⟨d, .box T x, ty, pos, af, none⟩ :: l) τ H := h
theorem WL.isN_alloc {d : Option Tmp} {ty : TypeId} {pos : String} {af : Array Edge} {T : TypeId} (h : WL P w0 D n ops Q (⟨d, .alloc T, ty, pos, af, none⟩ :: l) τ H) : WL P w0 D n ops Q (⟨d, .alloc T, ty, pos, af, none⟩ :: l) τ H := h
theorem WL.isN_store {d : Option Tmp} {ty : TypeId} {pos : String} {af : Array Edge} {T : TypeId} {x y : Operand} (h : WL P w0 D n ops Q (⟨d, .store T x y, ty, pos, af, none⟩ :: l) τ H) : WL P w0 D n ops Q (⟨d, .store T x y, ty, pos, af, none⟩ :: l) τ H := h
theorem WL.isN_bslice {d : Option Tmp} {ty : TypeId} {pos : String} {af : Array Edge} {T : TypeId} {k : Nat} {ps : Array (Nat × Operand)} (h : WL P w0 D n ops Q (⟨d, .buildSlice T k ps, ty, pos, af, none⟩ :: l) τ H) : WL P w0 D n ops Q (⟨d, .buildSlice T k ps, ty, pos, af, none⟩ :: l) τ H := h
theorem WL.isN_mslice {d : Option Tmp} {ty : TypeId} {pos : String} {af : Array Edge} {T : TypeId} {x y : Operand} (h : WL P w0 D n ops Q (⟨d, .makeSlice T x y, ty, pos, af, none⟩ :: l) τ H) : WL P w0 D n ops Q (⟨d, .makeSlice T x y, ty, pos, af, none⟩ :: l) τ H := h
theorem WK.isN_move {d : Option Tmp} {ty : TypeId} {pos : String} {af : Array Edge} {x : Operand} (h : WK P w0 D n ops H Q (⟨d, .move x, ty, pos, af, none⟩ :: l) τ) : WK P w0 D n ops H Q (⟨d, .move x, ty, pos, af, none⟩ :: l) τ := h
theorem WK.isN_assign {d : Option Tmp} {ty : TypeId} {pos : String} {af : Array Edge} {x : Operand} (h : WK P w0 D n ops H Q (⟨d, .assign x, ty, pos, af, none⟩ :: l) τ) : WK P w0 D n ops H Q (⟨d, .assign x, ty, pos, af, none⟩ :: l) τ := h
theorem WK.isN_bin {d : Option Tmp} {ty : TypeId} {pos : String} {af : Array Edge} {bo : BinOp} {T U : TypeId} {x y : Operand} (h : WK P w0 D n ops H Q (⟨d, .binOp bo T x y U, ty, pos, af, none⟩ :: l) τ) : WK P w0 D n ops H Q (⟨d, .binOp bo T x y U, ty, pos, af, none⟩ :: l) τ := h
theorem WK.isN_un {d : Option Tmp} {ty : TypeId} {pos : String} {af : Array Edge} {uo : UnOp} {T : TypeId} {x : Operand} (h : WK P w0 D n ops H Q (⟨d, .unOp uo T x, ty, pos, af, none⟩ :: l) τ) : WK P w0 D n ops H Q (⟨d, .unOp uo T x, ty, pos, af, none⟩ :: l) τ := h
theorem WK.isN_extract {d : Option Tmp} {ty : TypeId} {pos : String} {af : Array Edge} {x : Operand} {k : Nat} (h : WK P w0 D n ops H Q (⟨d, .extract x k, ty, pos, af, none⟩ :: l) τ) : WK P w0 D n ops H Q (⟨d, .extract x k, ty, pos, af, none⟩ :: l) τ := h
theorem WK.isN_nil {d : Option Tmp} {ty : TypeId} {pos : String} {af : Array Edge} {x : Operand} (h : WK P w0 D n ops H Q (⟨d, .nilCheck x, ty, pos, af, none⟩ :: l) τ) : WK P w0 D n ops H Q (⟨d, .nilCheck x, ty, pos, af, none⟩ :: l) τ := h
theorem WK.isN_load {d : Option Tmp} {ty : TypeId} {pos : String} {af : Array Edge} {T : TypeId} {x : Operand} (h : WK P w0 D n ops H Q (⟨d, .load T x, ty, pos, af, none⟩ :: l) τ) : WK P w0 D n ops H Q (⟨d, .load T x, ty, pos, af, none⟩ :: l) τ := h
theorem WK.isN_faddr {d : Option Tmp} {ty : TypeId} {pos : String} {af : Array Edge} {T : TypeId} {x : Operand} {k : Nat} (h : WK P w0 D n ops H Q (⟨d, .fieldAddr T x k, ty, pos, af, none⟩ :: l) τ) : WK P w0 D n ops H Q (⟨d, .fieldAddr T x k, ty, pos, af, none⟩ :: l) τ := h
theorem WK.isN_iaddr {d : Option Tmp} {ty : TypeId} {pos : String} {af : Array Edge} {T : TypeId} {x y : Operand} (h : WK P w0 D n ops H Q (⟨d, .indexAddr T x y, ty, pos, af, none⟩ :: l) τ) : WK P w0 D n ops H Q (⟨d, .indexAddr T x y, ty, pos, af, none⟩ :: l) τ := h
theorem WK.isN_conv {d : Option Tmp} {ty : TypeId} {pos : String} {af : Array Edge} {T U : TypeId} {x : Operand} (h : WK P w0 D n ops H Q (⟨d, .convert T U x, ty, pos, af, none⟩ :: l) τ) : WK P w0 D n ops H Q (⟨d, .convert T U x, ty, pos, af, none⟩ :: l) τ := h
theorem WK.isN_field {d : Option Tmp} {ty : TypeId} {pos : String} {af : Array Edge} {T : TypeId} {x : Operand} {k : Nat} (h : WK P w0 D n ops H Q (⟨d, .field T x k, ty, pos, af, none⟩ :: l) τ) : WK P w0 D n ops H Q (⟨d, .field T x k, ty, pos, af, none⟩ :: l) τ := h
theorem WK.isN_build {d : Option Tmp} {ty : TypeId} {pos : String} {af : Array Edge} {T : TypeId} {ps : Array (Nat × Operand)} (h : WK P w0 D n ops H Q (⟨d, .build T ps, ty, pos, af, none⟩ :: l) τ) : WK P w0 D n ops H Q (⟨d, .build T ps, ty, pos, af, none⟩ :: l) τ := h
theorem WK.isN_pick {d : Option Tmp} {ty : TypeId} {pos : String} {af : Array Edge} {x y z : Operand} (h : WK P w0 D n ops H Q (⟨d, .pick x y z, ty, pos, af, none⟩ :: l) τ) : WK P w0 D n ops H Q (⟨d, .pick x y z, ty, pos, af, none⟩ :: l) τ := h
theorem WK.isN_func {d : Option Tmp} {ty : TypeId} {pos : String} {af : Array Edge} {fn : Fn} {xs ys : Array Operand} (h : WK P w0 D n ops H Q (⟨d, .makeFunc fn xs ys, ty, pos, af, none⟩ :: l) τ) : WK P w0 D n ops H Q (⟨d, .makeFunc fn xs ys, ty, pos, af, none⟩ :: l) τ := h
theorem WK.isN_call {d : Option Tmp} {ty : TypeId} {pos : String} {af : Array Edge} {c : Call} (h : WK P w0 D n ops H Q (⟨d, .call c, ty, pos, af, none⟩ :: l) τ) : WK P w0 D n ops H Q (⟨d, .call c, ty, pos, af, none⟩ :: l) τ := h
theorem WK.isN_index {d : Option Tmp} {ty : TypeId} {pos : String} {af : Array Edge} {T : TypeId} {x y : Operand} (h : WK P w0 D n ops H Q (⟨d, .index T x y, ty, pos, af, none⟩ :: l) τ) : WK P w0 D n ops H Q (⟨d, .index T x y, ty, pos, af, none⟩ :: l) τ := h
theorem WK.isN_slice {d : Option Tmp} {ty : TypeId} {pos : String} {af : Array Edge} {T : TypeId} {x : Operand} {lo hi mx : Option Operand} (h : WK P w0 D n ops H Q (⟨d, .slice T x lo hi mx, ty, pos, af, none⟩ :: l) τ) : WK P w0 D n ops H Q (⟨d, .slice T x lo hi mx, ty, pos, af, none⟩ :: l) τ := h
end
/-! ### Premises that show themselves -/
section
variable {w0 : World} {D : Nat → Prop} {H H2 : List Item} {b o m i : Nat} {v : Value} {vs us ws : List Value} {it : Item} {p q : Bool} {x y : Value}
theorem cellQ (h : CellAt w0 D H b o v := by first | exact CellAt.box 0 rfl rfl | exact CellAt.box 1 rfl rfl | exact CellAt.box 2 rfl rfl | exact CellAt.box 3 rfl rfl | exact CellAt.box 4 rfl rfl | exact CellAt.box 5 rfl rfl | exact CellAt.box 6 rfl rfl | exact CellAt.box 7 rfl rfl | exact CellAt.box 8 rfl rfl | exact CellAt.box 9 rfl rfl | exact CellAt.box 10 rfl rfl | exact CellAt.box 11 rfl rfl | exact CellAt.box 12 rfl rfl | exact CellAt.box 13 rfl rfl | exact CellAt.ofInp (by assumption) rfl | exact CellAt.ofInp0 (by assumption) rfl | exact CellAt.rowP 0 rfl (by assumption) rfl | exact CellAt.rowP0 0 rfl (by assumption) rfl | exact CellAt.vwP 0 rfl (by omega) (by assumption) rfl | exact CellAt.vwP0 0 rfl (by omega) (by assumption) rfl | exact CellAt.rowP 1 rfl (by assumption) rfl | exact CellAt.rowP0 1 rfl (by assumption) rfl | exact CellAt.vwP 1 rfl (by omega) (by assumption) rfl | exact CellAt.vwP0 1 rfl (by omega) (by assumption) rfl | exact CellAt.rowP 2 rfl (by assumption) rfl | exact CellAt.rowP0 2 rfl (by assumption) rfl | exact CellAt.vwP 2 rfl (by omega) (by assumption) rfl | exact CellAt.vwP0 2 rfl (by omega) (by assumption) rfl | exact CellAt.rowP 3 rfl (by assumption) rfl | exact CellAt.rowP0 3 rfl (by assumption) rfl | exact CellAt.vwP 3 rfl (by omega) (by assumption) rfl | exact CellAt.vwP0 3 rfl (by omega) (by assumption) rfl | exact CellAt.rowP 4 rfl (by assumption) rfl | exact CellAt.rowP0 4 rfl (by assumption) rfl | exact CellAt.vwP 4 rfl (by omega) (by assumption) rfl | exact CellAt.vwP0 4 rfl (by omega) (by assumption) rfl | exact CellAt.rowP 5 rfl (by assumption) rfl | exact CellAt.rowP0 5 rfl (by assumption) rfl | exact CellAt.vwP 5 rfl (by omega) (by assumption) rfl | exact CellAt.vwP0 5 rfl (by omega) (by assumption) rfl | exact CellAt.rowP 6 rfl (by assumption) rfl | exact CellAt.rowP0 6 rfl (by assumption) rfl | exact CellAt.vwP 6 rfl (by omega) (by assumption) rfl | exact CellAt.vwP0 6 rfl (by omega) (by assumption) rfl | exact CellAt.rowP 7 rfl (by assumption) rfl | exact CellAt.rowP0 7 rfl (by assumption) rfl | exact CellAt.vwP 7 rfl (by omega) (by assumption) rfl | exact CellAt.vwP0 7 rfl (by omega) (by assumption) rfl | exact CellAt.rowP 8 rfl (by assumption) rfl | exact CellAt.rowP0 8 rfl (by assumption) rfl | exact CellAt.vwP 8 rfl (by omega) (by assumption) rfl | exact CellAt.vwP0 8 rfl (by omega) (by assumption) rfl | exact CellAt.rowP 9 rfl (by assumption) rfl | exact CellAt.rowP0 9 rfl (by assumption) rfl | exact CellAt.vwP 9 rfl (by omega) (by assumption) rfl | exact CellAt.vwP0 9 rfl (by omega) (by assumption) rfl | exact CellAt.rowP 10 rfl (by assumption) rfl | exact CellAt.rowP0 10 rfl (by assumption) rfl | exact CellAt.vwP 10 rfl (by omega) (by assumption) rfl | exact CellAt.vwP0 10 rfl (by omega) (by assumption) rfl | exact CellAt.rowP 11 rfl (by assumption) rfl | exact CellAt.rowP0 11 rfl (by assumption) rfl | exact CellAt.vwP 11 rfl (by omega) (by assumption) rfl | exact CellAt.vwP0 11 rfl (by omega) (by assumption) rfl | exact CellAt.inp (by assumption)) : CellAt w0 D H b o v := h
theorem cellsQ (h : CellsAt w0 D H b o vs := by first | exact CellsAt.box 0 rfl rfl | exact CellsAt.box 1 rfl rfl | exact CellsAt.box 2 rfl rfl | exact CellsAt.box 3 rfl rfl | exact CellsAt.box 4 rfl rfl | exact CellsAt.box 5 rfl rfl | exact CellsAt.ofInp (by assumption) | exact CellsAt.rowP 0 rfl (by assumption) | exact CellsAt.rowP 1 rfl (by assumption) | exact CellsAt.rowP 2 rfl (by assumption) | exact CellsAt.rowP 3 rfl (by assumption) | exact CellsAt.vwP 0 rfl (by omega) (by assumption) | exact CellsAt.vwP 1 rfl (by omega) (by assumption) | exact CellsAt.vwP 2 rfl (by omega) (by assumption) | exact CellsAt.vwP 3 rfl (by omega) (by assumption)) : CellsAt w0 D H b o vs := h
theorem aggQ (h : AggAt w0 D H b o m vs := by first | exact AggAt.box 0 rfl rfl | exact AggAt.box 1 rfl rfl | exact AggAt.box 2 rfl rfl | exact AggAt.box 3 rfl rfl | exact AggAt.box 4 rfl rfl | exact AggAt.box 5 rfl rfl | exact AggAt.box 6 rfl rfl | exact AggAt.box 7 rfl rfl | exact AggAt.box 8 rfl rfl | exact AggAt.box 9 rfl rfl | exact AggAt.box 10 rfl rfl | exact AggAt.box 11 rfl rfl | exact AggAt.box 12 rfl rfl | exact AggAt.box 13 rfl rfl | exact AggAt.of (CellsAt.ofInp (by assumption)) rfl | exact AggAt.of (CellsAt.rowP 0 rfl (by assumption)) rfl | exact AggAt.of (CellsAt.rowP 1 rfl (by assumption)) rfl | exact AggAt.of (CellsAt.rowP 2 rfl (by assumption)) rfl | exact AggAt.of (CellsAt.rowP 3 rfl (by assumption)) rfl | exact AggAt.of (CellsAt.rowP 4 rfl (by assumption)) rfl | exact AggAt.of (CellsAt.rowP 5 rfl (by assumption)) rfl | exact AggAt.of (CellsAt.rowP 6 rfl (by assumption)) rfl | exact AggAt.of (CellsAt.rowP 7 rfl (by assumption)) rfl | exact AggAt.of (CellsAt.rowP 8 rfl (by assumption)) rfl | exact AggAt.of (CellsAt.rowP 9 rfl (by assumption)) rfl | exact AggAt.of (CellsAt.rowP 10 rfl (by assumption)) rfl | exact AggAt.of (CellsAt.rowP 11 rfl (by assumption)) rfl | exact AggAt.of (CellsAt.vwP 0 rfl (by omega) (by assumption)) rfl | exact AggAt.of (CellsAt.vwP 1 rfl (by omega) (by assumption)) rfl | exact AggAt.of (CellsAt.vwP 2 rfl (by omega) (by assumption)) rfl | exact AggAt.of (CellsAt.vwP 3 rfl (by omega) (by assumption)) rfl | exact AggAt.of (CellsAt.vwP 4 rfl (by omega) (by assumption)) rfl | exact AggAt.of (CellsAt.vwP 5 rfl (by omega) (by assumption)) rfl | exact AggAt.of (CellsAt.vwP 6 rfl (by omega) (by assumption)) rfl | exact AggAt.of (CellsAt.vwP 7 rfl (by omega) (by assumption)) rfl | exact AggAt.of (CellsAt.vwP 8 rfl (by omega) (by assumption)) rfl | exact AggAt.of (CellsAt.vwP 9 rfl (by omega) (by assumption)) rfl | exact AggAt.of (CellsAt.vwP 10 rfl (by omega) (by assumption)) rfl | exact AggAt.of (CellsAt.vwP 11 rfl (by omega) (by assumption)) rfl) : AggAt w0 D H b o m vs := h
theorem setQ (h : SetAt H i it H2 := by repeat (first | exact SetAt.zero | apply SetAt.succ)) : SetAt H i it H2 := h
theorem overQ (h : OverAt vs o us ws := by repeat (first | exact OverAt.nil | apply OverAt.here | apply OverAt.skip)) : OverAt vs o us ws := h
theorem cellsOfQ (h : CellsAre vs us := by repeat (first | exact CellsAre.agg1 | exact CellsAre.nil | apply CellsAre.one rfl | apply CellsAre.agg)) : CellsAre vs us := h
theorem gdQ (h : p = q := by first | assumption | with_reducible rfl | ((with_reducible refine decide_eq_true ?_); omega) | ((with_reducible refine decide_eq_false ?_); omega) | ((with_reducible refine beqT ?_); omega) | ((with_reducible refine beqF ?_); omega) | ((with_reducible refine bneT ?_); omega) | ((with_reducible refine bneF ?_); omega) | ((with_reducible refine notT ?_); assumption) | ((with_reducible refine notF ?_); assumption) | ((with_reducible refine decide_eq_true ?_); assumption) | ((with_reducible refine decide_eq_false ?_); assumption) | (simp <;> fail) | exact False.elim (by assumption)) : p = q := h
theorem nrmQ (h : x = y := by first | exact nI64 (by omega) | exact nU16 (by omega) | exact nU32 (by omega) | exact nU8 (by omega) | exact mU16 | exact mU32 | exact mU8 | exact rfl) : x = y := h
end
end Go.Proofs.Ythbhjnmkbmmcnaa
