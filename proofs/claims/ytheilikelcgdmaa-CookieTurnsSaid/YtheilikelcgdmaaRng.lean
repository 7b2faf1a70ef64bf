/- Ranges over functions: a walk inside a fence (a round's, or the wide one); the statement's rule; the iterator's call of its yield. Of whatever program. -/
import Derived.RangeFuncNested
import Derived.RangeFuncBound
import Derived.RangeFuncCalls
import Derived.RangeFuncLeaves
import Derived.RangeFuncFrom
import Derived.Test.YtheilikelcgdmaaBox
namespace Go.Proofs.Ytheilikelcgdmaa
open Go.RowKit Go.IntWalk
set_option linter.unusedVariables false
set_option linter.unusedSectionVars false

/-- The fence: a round's, or none. -/
def fo : Option Nat → Fence
  | none => Fence.wide
  | some l => Fence.wide.inRound l
theorem fo_fn (r : Option Nat) (f : FuncId) : (fo r).fn f := by cases r <;> trivial
theorem fo_depth (r : Option Nat) : (fo r).depth = none := by cases r <;> rfl
theorem fo_no (r : Option Nat) {p : Prop} (h : (fo r).depth.isSome = true) : p := by rw [fo_depth] at h; cases h
theorem fo_round (r : Option Nat) : (fo r).round = r := by cases r <;> rfl
theorem fo_calls {r : Option Nat} {m : Nat} {P : Program} {f : FuncId} {args : Array Value} {w : World} {R : Ending → World → Prop} (h : Calls P f args w R) : CallsIn (fo r) m P f args w R := by
  cases r with
  | none => exact callsIn_wide.2 h
  | some l => exact CallsIn.inRound l (callsIn_wide.2 h)
theorem fo_rows {r : Option Nat} {m : Nat} {P : Program} {row : String} {args : Array Value} {w : World} {R : Value → World → Prop} (h : Rows P row args w R) : RowsIn (fo r) m P row args w R := by
  have h0 : RowsIn Fence.wide m P row args w R := fun c cs _ => let ⟨v, w', hr, hs⟩ := h c cs; ⟨v, w', hr, stepsIn_wide.2 hs⟩
  cases r with
  | none => exact h0
  | some l => exact h0
/-- It puts nothing off. -/
def ndB (o : Oper) : Bool := match o.op with
  | .defer _ => false
  | _ => true
theorem fo_sem {r : Option Nat} {o : Oper} (h : ndB o = true) (ρ : Operand → Value) : o.semAt (fo r).round ρ = execOp ρ o := by
  rw [fo_round]
  cases r with
  | none => rfl
  | some l => exact Oper.semAt_some l ρ o (fun c hc => by simp [ndB, hc] at h)
theorem wpIn_of_wp {r : Option Nat} {m : Nat} {P : Program} {o : Oper} {a : Act} {w : World} {K : Act → World → Prop} {Q : Exit → Act → World → Prop} (hnd : ndB o = true) (h : o.wp P a w K (fun _ _ _ => False)) : o.wpIn (fo r) m P a w K Q := by
  refine ⟨fun f _ => fo_fn r f, ?_⟩
  rw [fo_sem hnd]
  unfold Oper.wp at h
  revert h
  cases (execOp a.eval o).run P w with
  | ok x w' =>
    cases x with
    | value v => exact fun h => h
    | skip => exact fun h => h
    | defer d => exact fun h => h
    | enter f args =>
      intro h
      refine ⟨fo_no r, fo_calls (Calls.mono h fun e w'' he => ?_)⟩
      cases e with
      | returned v => exact he
      | panicked c => exact he.elim
      | outgrown => obtain ⟨_, _, hf⟩ := he; exact hf.elim
    | row row args =>
      intro h
      exact ⟨fo_no r, fo_rows h⟩
    | round l f t x y => exact fun h => h.elim
    | _ => exact fun h => h.elim
  | halt x w' =>
    cases x with
    | panic v => exact fun h => h.elim
    | _ => exact fun h => h.elim

structure WF (r : Option Nat) (m : Nat) [Dfr] (P : Program) (w0 : World) (D : Nat → Prop) (n : Nat) (c : Code) (Q : Exit → Act → World → Prop) (τ : Tm) (H : List Item) : Prop where
  go : ∀ a w, Has n τ a → Sat w0 D H w → c.wpIn (fo r) m P Q a w
structure WFL (r : Option Nat) (m : Nat) [Dfr] (P : Program) (w0 : World) (D : Nat → Prop) (n : Nat) (ops : Array Oper) (Q : Exit → Act → World → Prop) (l : List Oper) (τ : Tm) (H : List Item) : Prop where
  go : ∀ a w, Has n τ a → Sat w0 D H w → wpListIn (fo r) m P ops Q l a w

section
variable {r : Option Nat} {m : Nat} {P : Program} {w0 : World} {D : Nat → Prop} {n : Nat} [Dfr] {Q : Exit → Act → World → Prop} {K : Act → World → Prop} {τ τ' : Tm} {H H' : List Item} {x y : Code} {ops : Array Oper}
theorem WF.seq (h : WF r m P w0 D n x (Exit.then (y.wpIn (fo r) m P Q) Q) τ H) : WF r m P w0 D n (.seq x y) Q τ H := ⟨fun a w ha hw => wpIn_seq (h.go a w ha hw)⟩
theorem WF.skip (h : WQ w0 D n (Q .normal) τ H) : WF r m P w0 D n .skip Q τ H := ⟨fun a w ha hw => wpIn_skip (h.go a w ha hw)⟩
theorem WF.ret (h : WQ w0 D n (Q .ret) τ H) : WF r m P w0 D n .ret Q τ H := ⟨fun a w ha hw => wpIn_ret (h.go a w ha hw)⟩
theorem WF.exit {i : Nat} (h : WQ w0 D n (Q (.exit i)) τ H) : WF r m P w0 D n (.exit i) Q τ H := ⟨fun a w ha hw => wpIn_exit (h.go a w ha hw)⟩
theorem WF.block {i : Nat} (h : WF r m P w0 D n x (Exit.inBlock i Q) τ H) : WF r m P w0 D n (.block i x) Q τ H := ⟨fun a w ha hw => wpIn_block (h.go a w ha hw)⟩
theorem WF.cond {c : Operand} {b : Bool} (hc : evl τ c = some (.bool b)) (ht : b = true → WF r m P w0 D n x Q τ H) (hf : b = false → WF r m P w0 D n y Q τ H) : WF r m P w0 D n (.cond c x y) Q τ H :=
  ⟨fun a w ha hw => wpIn_cond_split (ha.ev hc) (fun h => (ht h).go a w ha hw) (fun h => (hf h).go a w ha hw)⟩
theorem WF.condT {c : Operand} (hc : evl τ c = some (.bool true)) (ht : WF r m P w0 D n x Q τ H) : WF r m P w0 D n (.cond c x y) Q τ H := WF.cond hc (fun _ => ht) (fun h => Bool.noConfusion h)
theorem WF.condF {c : Operand} (hc : evl τ c = some (.bool false)) (hf : WF r m P w0 D n y Q τ H) : WF r m P w0 D n (.cond c x y) Q τ H := WF.cond hc (fun h => Bool.noConfusion h) (fun _ => hf)
theorem WF.condP {c : Operand} {p : Prop} [Decidable p] (hc : evl τ c = some (.bool (decide p))) (ht : p → WF r m P w0 D n x Q τ H) (hf : ¬ p → WF r m P w0 D n y Q τ H) : WF r m P w0 D n (.cond c x y) Q τ H :=
  WF.cond hc (fun h => ht (of_decide_eq_true h)) (fun h => hf (of_decide_eq_false h))
theorem WF.region {i : Nat} {l : List Oper} (h : WFL r m P w0 D n l.toArray Q l τ H) : WF r m P w0 D n (.region i l.toArray false) Q τ H := ⟨fun a w ha hw => wpIn_region_lit (h.go a w ha hw)⟩
theorem WF.sub {idx : List Nat} (hs : Sub τ τ') (hp : Pick idx H H') (h : WF r m P w0 D n x Q τ' H') : WF r m P w0 D n x Q τ H := ⟨fun a w ha hw => h.go a w (ha.sub hs.look) (hw.pick hp)⟩
theorem WFL.nil (h : WQ w0 D n (Q .normal) τ H) : WFL r m P w0 D n ops Q [] τ H := ⟨h.go⟩
theorem WQ.codeF (h : WF r m P w0 D n y Q τ H) : WQ w0 D n (y.wpIn (fo r) m P Q) τ H := ⟨h.go⟩
theorem WFL.step {o : Oper} {l : List Oper} (hg : o.guard = none) (h : StepTo P w0 D n o τ H (WFL r m P w0 D n ops Q l)) (hnd : ndB o = true := by rfl) : WFL r m P w0 D n ops Q (o :: l) τ H :=
  ⟨fun a w ha hw => wpListIn_plain hg fun K hK => wpIn_of_wp hnd (h.go K _ (fun τ' H' hk a w ha hw => hK a w (hk.go a w ha hw)) a w ha hw)⟩
theorem WFL.yld {d : Nat} {op : Op} {ty : TypeId} {pos : String} {after : Array Edge} {l : List Oper} {v : Value} (hd : Nat.blt d n = true) (h : Yld P w0 D n ⟨some d, op, ty, pos, after, none⟩ τ H v) (hK : WFL r m P w0 D n ops Q l ((d, v) :: τ) H) (hnd : ndB ⟨some d, op, ty, pos, after, none⟩ = true := by rfl) :
    WFL r m P w0 D n ops Q (⟨some d, op, ty, pos, after, none⟩ :: l) τ H :=
  WFL.step rfl (StepTo.yld h hd hK) hnd
/-- The iterator calls its yield. -/
theorem WFL.yield {d l0 : Nat} {F : Operand} {args : Array Operand} {tys : Array TypeId} {vs : List Value} {ty : TypeId} {pos : String} {after : Array Edge} {l : List Oper} {R : World → Ending → World → Prop} (hd : Nat.blt d n = true)
    (hF : evl τ F = some (.func (.yield l0) #[] #[])) (ha : evls τ args.toList = some vs)
    (h : ∀ w, Sat w0 D H w → YieldAt (fo r) (m - 1) P l0 vs.toArray w (R w))
    (hK : ∀ w e w', Sat w0 D H w → R w e w' → ∃ v H', e = .returned v ∧ Sat w' D H' w' ∧ WFL r m P w' D n ops Q l ((d, v) :: τ) H') :
    WFL r m P w0 D n ops Q (⟨some d, .call { callee := .value F, args := args, argTypes := tys }, ty, pos, after, none⟩ :: l) τ H := ⟨fun a w hA hw => by
  obtain ⟨fn, tmps, assign, body, hy, hr⟩ := h w hw
  refine wpListIn_plain rfl fun K hk => ⟨fun f _ => fo_fn r f, ?_⟩
  rw [fo_sem rfl]
  have hm : args.map a.eval = vs.toArray := by
    rw [← evls_eq hA _ _ ha]; exact Array.ext' (by simp)
  have hrun : (execOp a.eval ⟨some d, .call { callee := .value F, args := args, argTypes := tys }, ty, pos, after, none⟩).run P w = .ok (.round l0 fn tmps assign body) w := by
    have he := hA.ev hF
    simp [execOp, resolve, he, hm, Deferred.ofValue, invoke, hy]
  rw [hrun]
  refine ⟨fo_no r, hr.mono fun e w' he => ?_⟩
  obtain ⟨v, H', rfl, hs, hg⟩ := hK w e w' hw he
  exact hk _ _ (hg.go _ w' (hA.put (some d) v hd) hs)⟩
/-- A loop whose rounds may turn the world they stand on. -/
def RndW (D : Nat → Prop) (n : Nat) [Dfr] (I : Nat → World → Tm → List Item → Prop) (m : Nat) (a : Act) (w : World) : Prop := ∃ m', m' < m ∧ ∃ w1 τ H, I m' w1 τ H ∧ Has n τ a ∧ Sat w1 D H w
theorem WF.loopW (I : Nat → World → Tm → List Item → Prop) (m0 : Nat) (τ' : Tm) (H' : List Item) (idx : List Nat) (hs : Sub τ τ') (hp : Pick idx H H') (h0 : I m0 w0 τ' H')
    (round : ∀ k w1 τ H, I k w1 τ H → WF none m P w1 D n x (Exit.then (RndW D n I k) Q) τ H) : WF none m P w0 D n (.loop x) Q τ H := ⟨fun a w ha hw => wpIn_wide.2 <|
  wp_loop_ghost (fun k a w => ∃ w1 τ H, I k w1 τ H ∧ Has n τ a ∧ Sat w1 D H w) m0 ⟨w0, τ', H', h0, ha.sub hs.look, hw.pick hp⟩ fun k a w ⟨w1, τ1, H1, h1, h2, h3⟩ => wpIn_wide.1 ((round k w1 τ1 H1 h1).go a w h2 h3)⟩
theorem WQ.rndW {I : Nat → World → Tm → List Item → Prop} {k : Nat} (k' : Nat) (τ' : Tm) (H' : List Item) (idx : List Nat) (hs : Sub τ τ') (hp : Pick idx H H') (hm : k' < k) (hI : I k' w0 τ' H') : WQ w0 D n (RndW D n I k) τ H :=
  ⟨fun a w ha hw => ⟨k', hm, w0, τ', H', hI, ha.sub hs.look, hw.pick hp⟩⟩
theorem WF.condTh {c : Operand} {b : Bool} (hc : evl τ c = some (.bool b)) (hb : b = true) (ht : WF r m P w0 D n x Q τ H) : WF r m P w0 D n (.cond c x y) Q τ H := WF.condT (by rw [hc, hb]) ht
theorem WF.condFh {c : Operand} {b : Bool} (hc : evl τ c = some (.bool b)) (hb : b = false) (hf : WF r m P w0 D n y Q τ H) : WF r m P w0 D n (.cond c x y) Q τ H := WF.condF (by rw [hc, hb]) hf
theorem WC.ofF (h : WF none m P w0 D n x Q τ H) : WC P w0 D n x Q τ H := ⟨fun a w ha hw => wpIn_wide.1 (h.go a w ha hw)⟩
variable {l : List Oper}
theorem WFL.isN_move {d : Option Tmp} {ty : TypeId} {pos : String} {af : Array Edge} {x : Operand} (h : WFL r m P w0 D n ops Q (⟨d, .move x, ty, pos, af, none⟩ :: l) τ H) : WFL r m P w0 D n ops Q (⟨d, .move x, ty, pos, af, none⟩ :: l) τ H := h
theorem WFL.isN_assign {d : Option Tmp} {ty : TypeId} {pos : String} {af : Array Edge} {x : Operand} (h : WFL r m P w0 D n ops Q (⟨d, .assign x, ty, pos, af, none⟩ :: l) τ H) : WFL r m P w0 D n ops Q (⟨d, .assign x, ty, pos, af, none⟩ :: l) τ H := h
theorem WFL.isN_bin {d : Option Tmp} {ty : TypeId} {pos : String} {af : Array Edge} {bo : BinOp} {T U : TypeId} {x y : Operand} (h : WFL r m P w0 D n ops Q (⟨d, .binOp bo T x y U, ty, pos, af, none⟩ :: l) τ H) : WFL r m P w0 D n ops Q (⟨d, .binOp bo T x y U, ty, pos, af, none⟩ :: l) τ H := h
theorem WFL.isN_un {d : Option Tmp} {ty : TypeId} {pos : String} {af : Array Edge} {uo : UnOp} {T : TypeId} {x : Operand} (h : WFL r m P w0 D n ops Q (⟨d, .unOp uo T x, ty, pos, af, none⟩ :: l) τ H) : WFL r m P w0 D n ops Q (⟨d, .unOp uo T x, ty, pos, af, none⟩ :: l) τ H := h
theorem WFL.isN_extract {d : Option Tmp} {ty : TypeId} {pos : String} {af : Array Edge} {x : Operand} {k : Nat} (h : WFL r m P w0 D n ops Q (⟨d, .extract x k, ty, pos, af, none⟩ :: l) τ H) : WFL r m P w0 D n ops Q (⟨d, .extract x k, ty, pos, af, none⟩ :: l) τ H := h
theorem WFL.isN_nil {d : Option Tmp} {ty : TypeId} {pos : String} {af : Array Edge} {x : Operand} (h : WFL r m P w0 D n ops Q (⟨d, .nilCheck x, ty, pos, af, none⟩ :: l) τ H) : WFL r m P w0 D n ops Q (⟨d, .nilCheck x, ty, pos, af, none⟩ :: l) τ H := h
theorem WFL.isN_load {d : Option Tmp} {ty : TypeId} {pos : String} {af : Array Edge} {T : TypeId} {x : Operand} (h : WFL r m P w0 D n ops Q (⟨d, .load T x, ty, pos, af, none⟩ :: l) τ H) : WFL r m P w0 D n ops Q (⟨d, .load T x, ty, pos, af, none⟩ :: l) τ H := h
theorem WFL.isN_faddr {d : Option Tmp} {ty : TypeId} {pos : String} {af : Array Edge} {T : TypeId} {x : Operand} {k : Nat} (h : WFL r m P w0 D n ops Q (⟨d, .fieldAddr T x k, ty, pos, af, none⟩ :: l) τ H) : WFL r m P w0 D n ops Q (⟨d, .fieldAddr T x k, ty, pos, af, none⟩ :: l) τ H := h
theorem WFL.isN_iaddr {d : Option Tmp} {ty : TypeId} {pos : String} {af : Array Edge} {T : TypeId} {x y : Operand} (h : WFL r m P w0 D n ops Q (⟨d, .indexAddr T x y, ty, pos, af, none⟩ :: l) τ H) : WFL r m P w0 D n ops Q (⟨d, .indexAddr T x y, ty, pos, af, none⟩ :: l) τ H := h
theorem WFL.isN_conv {d : Option Tmp} {ty : TypeId} {pos : String} {af : Array Edge} {T U : TypeId} {x : Operand} (h : WFL r m P w0 D n ops Q (⟨d, .convert T U x, ty, pos, af, none⟩ :: l) τ H) : WFL r m P w0 D n ops Q (⟨d, .convert T U x, ty, pos, af, none⟩ :: l) τ H := h
theorem WFL.isN_field {d : Option Tmp} {ty : TypeId} {pos : String} {af : Array Edge} {T : TypeId} {x : Operand} {k : Nat} (h : WFL r m P w0 D n ops Q (⟨d, .field T x k, ty, pos, af, none⟩ :: l) τ H) : WFL r m P w0 D n ops Q (⟨d, .field T x k, ty, pos, af, none⟩ :: l) τ H := h
theorem WFL.isN_build {d : Option Tmp} {ty : TypeId} {pos : String} {af : Array Edge} {T : TypeId} {ps : Array (Nat × Operand)} (h : WFL r m P w0 D n ops Q (⟨d, .build T ps, ty, pos, af, none⟩ :: l) τ H) : WFL r m P w0 D n ops Q (⟨d, .build T ps, ty, pos, af, none⟩ :: l) τ H := h
theorem WFL.isN_pick {d : Option Tmp} {ty : TypeId} {pos : String} {af : Array Edge} {x y z : Operand} (h : WFL r m P w0 D n ops Q (⟨d, .pick x y z, ty, pos, af, none⟩ :: l) τ H) : WFL r m P w0 D n ops Q (⟨d, .pick x y z, ty, pos, af, none⟩ :: l) τ H := h
theorem WFL.isN_func {d : Option Tmp} {ty : TypeId} {pos : String} {af : Array Edge} {fn : Fn} {xs ys : Array Operand} (h : WFL r m P w0 D n ops Q (⟨d, .makeFunc fn xs ys, ty, pos, af, none⟩ :: l) τ H) : WFL r m P w0 D n ops Q (⟨d, .makeFunc fn xs ys, ty, pos, af, none⟩ :: l) τ H := h
theorem WFL.isN_call {d : Option Tmp} {ty : TypeId} {pos : String} {af : Array Edge} {c : Call} (h : WFL r m P w0 D n ops Q (⟨d, .call c, ty, pos, af, none⟩ :: l) τ H) : WFL r m P w0 D n ops Q (⟨d, .call c, ty, pos, af, none⟩ :: l) τ H := h
theorem WFL.isN_index {d : Option Tmp} {ty : TypeId} {pos : String} {af : Array Edge} {T : TypeId} {x y : Operand} (h : WFL r m P w0 D n ops Q (⟨d, .index T x y, ty, pos, af, none⟩ :: l) τ H) : WFL r m P w0 D n ops Q (⟨d, .index T x y, ty, pos, af, none⟩ :: l) τ H := h
theorem WFL.isN_slice {d : Option Tmp} {ty : TypeId} {pos : String} {af : Array Edge} {T : TypeId} {x : Operand} {lo hi mx : Option Operand} (h : WFL r m P w0 D n ops Q (⟨d, .slice T x lo hi mx, ty, pos, af, none⟩ :: l) τ H) : WFL r m P w0 D n ops Q (⟨d, .slice T x lo hi mx, ty, pos, af, none⟩ :: l) τ H := h
theorem WFL.isN_box {d : Option Tmp} {ty : TypeId} {pos : String} {af : Array Edge} {T : TypeId} {x : Operand} (h : WFL r m P w0 D n ops Q (⟨d, .box T x, ty, pos, af, none⟩ :: l) τ H) : WFL r m P w0 D n ops Q (⟨d, .box T x, ty, pos, af, none⟩ :: l) τ H := h
theorem WFL.isN_alloc {d : Option Tmp} {ty : TypeId} {pos : String} {af : Array Edge} {T : TypeId} (h : WFL r m P w0 D n ops Q (⟨d, .alloc T, ty, pos, af, none⟩ :: l) τ H) : WFL r m P w0 D n ops Q (⟨d, .alloc T, ty, pos, af, none⟩ :: l) τ H := h
theorem WFL.isN_store {d : Option Tmp} {ty : TypeId} {pos : String} {af : Array Edge} {T : TypeId} {x y : Operand} (h : WFL r m P w0 D n ops Q (⟨d, .store T x y, ty, pos, af, none⟩ :: l) τ H) : WFL r m P w0 D n ops Q (⟨d, .store T x y, ty, pos, af, none⟩ :: l) τ H := h
theorem WFL.isN_bslice {d : Option Tmp} {ty : TypeId} {pos : String} {af : Array Edge} {T : TypeId} {k : Nat} {ps : Array (Nat × Operand)} (h : WFL r m P w0 D n ops Q (⟨d, .buildSlice T k ps, ty, pos, af, none⟩ :: l) τ H) : WFL r m P w0 D n ops Q (⟨d, .buildSlice T k ps, ty, pos, af, none⟩ :: l) τ H := h
theorem WFL.isN_mslice {d : Option Tmp} {ty : TypeId} {pos : String} {af : Array Edge} {T : TypeId} {x y : Operand} (h : WFL r m P w0 D n ops Q (⟨d, .makeSlice T x y, ty, pos, af, none⟩ :: l) τ H) : WFL r m P w0 D n ops Q (⟨d, .makeSlice T x y, ty, pos, af, none⟩ :: l) τ H := h
end
theorem Has.puts {n : Nat} [Dfr] : ∀ (l : List (Nat × Value)) {τ : Tm} {a : Act}, (∀ p ∈ l, p.1 < n) → Has n τ a → Has n (l.foldl (fun t p => p :: t) τ) { a with tmps := l.foldl (fun t p => t.setIfInBounds p.1 p.2) a.tmps }
  | [], τ, a, _, h => h
  | p :: l, τ, a, hl, h => by
    have := Has.puts l (fun q hq => hl q (List.mem_cons_of_mem _ hq)) (h.put (some p.1) p.2 (by simpa [okd, Nat.blt, Nat.succ_le_iff] using hl p (by simp)))
    exact this
theorem pick_tail (X R : List Item) : Pick (List.range' X.length R.length) (X ++ R) R := by
  refine ⟨List.nodup_range', ?_⟩
  apply List.ext_getElem?
  intro j
  rw [List.getElem?_map, List.getElem?_map]
  by_cases hj : j < R.length
  · rw [List.getElem?_range' hj, List.getElem?_eq_getElem hj]
    simp [hj]
  · rw [List.getElem?_eq_none (by simpa using hj), List.getElem?_eq_none (by omega)]
    rfl
theorem pick_head (X R : List Item) : Pick (List.range' 0 X.length) (X ++ R) X := by
  refine ⟨List.nodup_range', ?_⟩
  apply List.ext_getElem?
  intro j
  rw [List.getElem?_map, List.getElem?_map]
  by_cases hj : j < X.length
  · rw [List.getElem?_range' hj, List.getElem?_eq_getElem hj]
    simp [List.getElem?_append_left, hj]
  · rw [List.getElem?_eq_none (by simpa using hj), List.getElem?_eq_none (by omega)]
    rfl
theorem pick_all (X : List Item) : Pick (List.range' 0 X.length) X X := by simpa using pick_head X []
section
variable {P : Program} {w0 : World} {D : Nat → Prop} {n : Nat} {Q : Exit → Act → World → Prop} {τ : Tm} {H : List Item} {g : Operand} {ps : Array Tmp} {assign body : Code}
/-- The statement: what its rounds turn are variables of mine (Hs); the others (Hr) stay; the iterator reads one of these, B. -/
theorem WC.rng {α : Type} {gf : Nat} {lb : Array Value} {encs : α → Array Value} {S Sp : List α → Prop} {N m : Nat} (B : Nat) (Hs : List α → List Item) (Hr : List Item) (idx : List Nat) (τb : α → Tm)
    (hg : evl τ g = some (.func (.func gf) #[] lb)) (eg : ∀ args w, (callFunc gf args).run P w = .ok (.enter gf args) w)
    (hp : Pick idx H (Hs [] ++ Hr)) (hbox : ∀ pre, ∀ it ∈ Hs pre ++ Hr, ∃ b t cs, it = .box b t cs) (hB : ∃ t cs, Item.box B t cs ∈ Hr) (hps : ∀ x, (encs x).size = ps.size) (hpn : ∀ p ∈ ps.toList, p < n)
    (hseq : ∀ w, Sat w0 D (Hs [] ++ Hr) w → SeqStopsK Fence.wide m P gf lb encs (Ext fun b => b ≠ B) S Sp N w)
    (hassign : ∀ l x W, WF (some l) (m - 1) P W (fun _ => False) n assign (Exit.then (Met W (fun _ => False) n fun τ' H' => τ' = τb x ∧ H' = []) (fun _ _ _ => False)) ((ps.toList.zip (encs x).toList).foldl (fun t p => p :: t) τ) [])
    (hbody : ∀ l pre x W, pre.length < N → WF (some l) (m - 1) P W (Bs (Hs pre)) n body (Exit.then (Met W (Bs (Hs pre)) n fun τ' H' => H' = Hs (pre ++ [x])) (fun _ _ _ => False)) (τb x) (Hs pre))
    (hK : ∀ (i : Dfr) xs W Dm, Dfr.ds = [{ target := .collected Dm, args := #[] }] → S xs → Sat w0 D (Hs xs ++ Hr) W → w0.heap.size ≤ Dm → W.heap[Dm]? = some (.deferred (some [])) →
      WQ W (Bs (Hs xs ++ Hr)) n (Q .normal) τ (Hs xs ++ Hr)) :
    WC P w0 D n (.rangeFunc g ps assign body) Q τ H := ⟨fun a w ha hw0 => by
  have hw := hw0.pick hp
  obtain ⟨tB, csB, hBm⟩ := hB
  have hBlt : B < w.heap.size := (hw.holds _ (List.mem_append_right _ hBm)).lt rfl
  have hcell : ∀ {pre : List α} {W : World} {k : Nat} {o : Obj}, Sat w0 D (Hs pre ++ Hr) W → Bs (Hs pre ++ Hr) k → W.heap[k]? = some o → o.isCells = true := by
    rintro pre W k o hs ⟨it, hit, hb⟩ ho
    obtain ⟨b, t, cs, rfl⟩ := hbox pre it hit
    simp only [Item.blk, Option.some.injEq] at hb
    subst hb
    have := hs.holds _ hit
    simp only [Item.holds] at this
    rw [this] at ho
    cases ho
    rfl
  refine wpIn_wide (n := m + 1) |>.1 ?_
  refine wpIn_rangeFunc_ownH (F := Fence.wide) (n := m + 1) rfl (by omega) (gf := gf) (lb := lb) (ha.ev hg) trivial eg (w0 := w) (hseq w hw) (fun h k => h.trans k) ?_ (Below.refl _ w) hps
    (fun pre W => Sat w0 D (Hs pre ++ Hr) W) (fun _ _ _ => False) ?_ (fun _ _ _ _ _ h _ _ => h) hw (fun x a' _ => Has n (τb x) a') (fun x a' => ownFrom_pure _ _) ?_ ?_ ?_ ?_
  · intro W l o o' hl ho _ _
    refine ⟨rfl, rfl, rfl, ?_, fun k hk hd => ?_⟩
    · simp [World.putObj]
    · have : k = B := by simpa using hd
      exact World.putObj_heap_other (by omega)
  · intro s A C row hs hgr hr
    have hne : ∀ k, (k < w.heap.size ∨ Bs (Hs s ++ Hr) k) → some k ≠ row := fun k hk e => by
      obtain ⟨h1, o, h2, h3⟩ := hr k e.symm
      rcases hk with hk | hk
      · omega
      · rw [hcell hs hk h2] at h3; cases h3
    refine ⟨⟨hgr.os.trans hs.ext.os, hgr.tape.trans hs.ext.tape, hgr.output.trans hs.ext.output, Nat.le_trans hs.ext.size hgr.size, fun k hk hd => ?_⟩, fun it hit => ?_, hs.own, hs.apart⟩
    · exact (hgr.block k (Nat.lt_of_lt_of_le hk hs.size) (hne k (.inl (Nat.lt_of_lt_of_le hk hw.size)))).trans (hs.ext.block k hk hd)
    · exact (hs.holds it hit).keep hgr.size fun b hb => hgr.block b ((hs.holds it hit).lt hb) (hne b (.inr ⟨it, hit, hb⟩))
  · intro l pre x W K hI hKK
    have hh := Has.puts (ps.zip (encs x)).toList (fun p hp => hpn p.1 (by
      rw [Array.toList_zip] at hp
      exact (List.of_mem_zip hp).1)) ha
    have hgo := (hassign l x W).go { a with tmps := (ps.zip (encs x)).toList.foldl (fun t p => t.setIfInBounds p.1 p.2) a.tmps } W (by rw [← Array.toList_zip]; exact hh) (Sat.start W _)
    have e1 : ({ a with tmps := (ps.zip (encs x)).toList.foldl (fun t p => t.setIfInBounds p.1 p.2) a.tmps } : Act) = { tmps := (ps.zip (encs x)).foldl (fun t (p, v) => t.setIfInBounds p v) a.tmps, defers := [] } := by
      rw [← Array.foldl_toList, ha.defers]
      rfl
    rw [e1] at hgo
    refine wpIn_mono hgo fun e a' W' he => ?_
    cases e with
    | normal =>
      obtain ⟨τ', H', ⟨rfl, rfl⟩, ha', hs'⟩ := he
      have hb := hs'.ext.below
      exact hKK a' W' ⟨hb.size, fun k o _ hk _ => (hb.block k (Array.getElem?_eq_some_iff.1 hk).1).trans hk⟩ (Ext.of_below hb) (hI.below hb) ha'
    | _ => exact he.elim
  · intro l pre x a' W hl _ hI hA hlen
    have hI0 : Sat w0 D (Hs pre ++ Hr) W := hI
    have hal := hI0.alone (pick_head (Hs pre) Hr)
    refine wpIn_mono ((hbody l pre x W hlen).go a' W hA hal) fun e a2 W' he => ?_
    cases e with
    | normal =>
      obtain ⟨τ', H', rfl, _, hs'⟩ := he
      have hnB : ¬ Bs (Hs pre) B := fun ⟨it, hit, hb⟩ => by
        have := (List.pairwise_append.1 hI0.apart).2.2 it hit _ hBm
        obtain ⟨b, t, cs, rfl⟩ := hbox pre it (List.mem_append_left _ hit)
        exact this.ne rfl B hb rfl
      refine ⟨⟨hs'.ext.size, fun k o _ hk ho => (hs'.ext.block k (Array.getElem?_eq_some_iff.1 hk).1 fun ⟨it, hit, hb⟩ => ?_).trans hk⟩, ⟨hs'.ext.os, hs'.ext.tape, hs'.ext.output, hs'.ext.size, fun k hk hd => hs'.ext.block k hk ?_⟩, ?_⟩
      · rw [hcell hI0 ⟨it, List.mem_append_left _ hit, hb⟩ hk] at ho; cases ho
      · have : k = B := by simpa using hd
        rw [this]; exact hnB
      · refine hI0.mod (rest := List.range' (Hs pre).length Hr.length) (D' := Bs (Hs pre)) (pick_tail _ _) (fun b ⟨it, hit, hb⟩ => ?_) (hs'.toMod fun it hit => ?_)
        · obtain ⟨j, hj, rfl⟩ := List.getElem_of_mem hit
          refine ⟨j, (Hs pre)[j], ?_, by rw [List.getElem?_append_left hj, List.getElem?_eq_getElem hj], ?_, hb⟩
          · rw [List.mem_range'_1]; omega
          · obtain ⟨b, t, cs, e⟩ := hbox pre _ (List.mem_append_left _ hit)
            rw [e]; rfl
        · obtain ⟨b, t, cs, e⟩ := hbox (pre ++ [x]) _ (List.mem_append_left _ hit)
          rw [e]; rfl
    | _ => exact he.elim
  · intro Dm xs W hD hS hI hk
    have hI0 : Sat w0 D (Hs xs ++ Hr) W := hI
    exact @WQ.go ⟨[{ target := .collected Dm, args := #[] }]⟩ _ _ _ _ _ _ (hK ⟨[{ target := .collected Dm, args := #[] }]⟩ xs W Dm rfl hS hI0 (Nat.le_trans hw.size hD) hk) _ W (@Has.mk ⟨[{ target := .collected Dm, args := #[] }]⟩ _ _ _ ha.size (by
      show { target := .collected Dm, args := #[] } :: a.defers = [{ target := .collected Dm, args := #[] }]
      rw [ha.defers]; rfl) ha.at_) (hI0.alone (pick_all _))
  · intro Dm c pre W _ _ h _
    exact h.elim⟩
/-- Into a function that ranges over a function, and out of it. -/
theorem enterR {f : FuncId} {fn : Func} {c : Code} {args : List Value} {w : World} {R : Ending → World → Prop} (D : Nat → Prop) (n : Nat) (hf : P.funcs[f]? = some fn) (hb : fn.body = some c)
    (hn : args.length + (fn.ntmps - args.length) = n) (h : WC P w D n c (bodyPostM Fence.wide 1 P fn R) (argT 0 args) []) : Calls P f args.toArray w R := by
  refine callsIn_wide (n := 1) |>.1 (callsIn_of_wp_marks hf hb trivial (wpIn_wide.2 (h.go _ w ⟨by simpa using hn, rfl, fun t v ht => ?_⟩ (Sat.start w D))))
  have := (look_argT _ _ _ _ ht).2
  show (args.toArray ++ Array.replicate (fn.ntmps - args.toArray.size) undef)[t]? = some v
  have hlt := (List.getElem?_eq_some_iff.1 this).1
  rw [Array.getElem?_append_left (by simpa using hlt)]
  simpa using this
theorem WQ.bodyM [Dfr] {Dm : Nat} {fn : Func} {R : Ending → World → Prop} {t : Nat} {v : Value} (hds : Dfr.ds = [{ target := .collected Dm, args := #[] }]) (hf : fn.results = #[.tmp t]) (ht : look τ t = some v)
    (h : ∀ w, Sat w0 D H w → w.heap[Dm]? = some (.deferred (some [])) ∧ R (.returned v) (w.putObj Dm (.deferred none))) :
    WQ w0 D n (bodyPostM Fence.wide 1 P fn R .ret) τ H := ⟨fun a w ha hw => by
  obtain ⟨hd, hR⟩ := h w hw
  have e : a.defers = [{ target := .collected Dm, args := #[] }] := ha.defers.trans hds
  have ha' := ha.at_ t v ht
  show LeavesInM Fence.wide 1 P fn a.tmps R a.defers .returning w
  rw [e]
  refine ⟨by simp, .inl ⟨Dm, _, rfl, run_takeDeferred hd, ?_⟩⟩
  exact ⟨v, by simp [results, hf, ha'], hR⟩⟩
theorem sat_ends {w W w' : World} {Hx : List Item} {Dm : Nat} (hbox : ∀ it ∈ Hx, ∃ b t cs, it = Item.box b t cs) (hW : Sat w (fun _ => False) Hx W) (hD : w.heap.size ≤ Dm) (hDk : W.heap[Dm]? = some (.deferred (some []))) (hx : Ext (Bs Hx) W w') :
    w'.heap[Dm]? = some (.deferred (some [])) ∧ Below w.heap.size w (w'.putObj Dm (.deferred none)) := by
  have hne : ∀ k, (k < w.heap.size ∨ k = Dm) → ¬ Bs Hx k := fun k hk ⟨it, hit, hb⟩ => by
    obtain ⟨b, t, cs, rfl⟩ := hbox it hit
    simp only [Item.blk, Option.some.injEq] at hb
    subst hb
    rcases hk with hk | rfl
    · rcases hW.own _ hit rfl _ rfl with h | h
      · omega
      · exact h
    · have := hW.holds _ hit
      simp only [Item.holds] at this
      rw [this] at hDk; cases hDk
  refine ⟨(hx.block Dm (Array.getElem?_eq_some_iff.1 hDk).1 (hne _ (.inr rfl))).trans hDk, hx.os.trans hW.ext.os, hx.tape.trans hW.ext.tape, hx.output.trans hW.ext.output, ?_, fun k hk => ?_⟩
  · have := hx.size
    have := hW.ext.size
    simp [World.putObj]
    omega
  · exact (World.putObj_heap_other (by omega)).trans ((hx.block k (Nat.lt_of_lt_of_le hk hW.ext.size) (hne _ (.inl hk))).trans (hW.ext.block k hk id))
end
end Go.Proofs.Ytheilikelcgdmaa
