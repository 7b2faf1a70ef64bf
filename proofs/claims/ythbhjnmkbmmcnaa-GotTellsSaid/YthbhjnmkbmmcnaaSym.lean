/- Walking by symbolic states: what the temporaries and the blocks hold, as lists; no world in sight. Of whatever program. -/
import Derived.Test.YthbhjnmkbmmcnaaSlc
import Derived.Scope
import Derived.Lib.FrozenHead2
namespace Go.Proofs.Ythbhjnmkbmmcnaa
open Go.RowKit
set_option linter.unusedVariables false
set_option linter.unusedSectionVars false

/-- Temporaries that are known, the latest first. -/
abbrev Tm := List (Nat × Value)
def look : Tm → Nat → Option Value
  | [], _ => none
  | (k, v) :: r, t => bif Nat.beq k t then some v else look r t
def evl (τ : Tm) : Operand → Option Value
  | .tmp t => look τ t
  | .const v => some v
  | .global g => some (.pointer (some ⟨g, 0, none⟩))
  | .func f => some (.func (.func f) #[] #[])
def upd (τ : Tm) : Option Nat → Value → Tm
  | some d, v => (d, v) :: τ
  | none, _ => τ
def okd (n : Nat) : Option Nat → Bool
  | some d => Nat.blt d n
  | none => true

/-- What is put off till the function returns: nothing, unless it says so. -/
class Dfr where
  ds : List Deferred
instance (priority := low) Dfr.nil : Dfr := ⟨[]⟩
structure Has [Dfr] (n : Nat) (τ : Tm) (a : Act) : Prop where
  size : a.tmps.size = n
  defers : a.defers = Dfr.ds
  at_ : ∀ t v, look τ t = some v → a.tmps[t]? = some v

section
variable {n d : Nat} [Dfr] {τ τ' : Tm} {a : Act} {v : Value} {x : Operand}
theorem Has.ev (h : Has n τ a) (hx : evl τ x = some v) : a.eval x = v := by
  cases x with
  | tmp t =>
    have := h.at_ t v hx
    simp [Act.eval, Array.getD_eq_getD_getElem?, this]
  | const u => simp [evl] at hx; exact hx
  | global g => simp [evl] at hx; exact hx
  | func f => simp [evl] at hx; exact hx
theorem Has.put (h : Has n τ a) (o : Option Nat) (v : Value) (hd : okd n o = true) : Has n (upd τ o v) (a.put o v) := by
  cases o with
  | none => exact h
  | some d =>
    have hd' : d < n := by simpa [okd, Nat.blt, Nat.succ_le_iff] using hd
    refine ⟨by simp [Act.put, h.size], h.defers, fun t u hu => ?_⟩
    simp only [upd, look] at hu
    simp only [Act.put, Array.getElem?_setIfInBounds]
    by_cases e : d = t
    · subst e
      simp [Nat.beq_refl] at hu
      rw [if_pos rfl, if_pos (by rw [h.size]; exact hd'), hu]
    · have e' : Nat.beq d t = false := by
        cases hb : Nat.beq d t with
        | false => rfl
        | true => exact absurd (Nat.eq_of_beq_eq_true hb) e
      rw [e'] at hu
      rw [if_neg e]
      exact h.at_ t u hu
theorem Has.sub (h : Has n τ a) (hs : ∀ t v, look τ' t = some v → look τ t = some v) : Has n τ' a := ⟨h.size, h.defers, fun t v ht => h.at_ t v (hs t v ht)⟩
end

/-- Of a temporaries' list, a smaller one. -/
inductive Sub (τ : Tm) : Tm → Prop
  | nil : Sub τ []
  | cons {t : Nat} {v : Value} {r : Tm} (h : look τ t = some v) (hr : Sub τ r) : Sub τ ((t, v) :: r)
theorem Sub.consE {τ : Tm} {t : Nat} {v v' : Value} {r : Tm} (h : Proofs.Ythbhjnmkbmmcnaa.look τ t = some v') (e : v' = v) (hr : Sub τ r) : Sub τ ((t, v) :: r) := Sub.cons (e ▸ h) hr
theorem int_eq {k : IntKind} {a b : Int} (h : a = b) : Value.int k a = Value.int k b := by rw [h]
theorem bool_eq {a b : Bool} (h : a = b) : Value.bool a = Value.bool b := by rw [h]
theorem Sub.look {τ τ' : Tm} (h : Sub τ τ') : ∀ t v, look τ' t = some v → look τ t = some v := by
  induction h with
  | nil => intro t v hv; simp [Proofs.Ythbhjnmkbmmcnaa.look] at hv
  | cons h0 hr ih =>
    rename_i t0 v0 r
    intro t v hv
    simp only [Proofs.Ythbhjnmkbmmcnaa.look] at hv
    by_cases e : Nat.beq t0 t = true
    · rw [e] at hv
      have := Nat.eq_of_beq_eq_true e
      subst this
      simp at hv
      rw [← hv]; exact h0
    · have e' : Nat.beq t0 t = false := by cases hb : Nat.beq t0 t with
        | false => rfl
        | true => exact absurd hb e
      rw [e'] at hv
      exact ih t v hv

/-- A piece of memory. Of the call's own: a block that is known whole, or a row that grows ('fz': its head may be frozen). Or a slice that is read alone ('vw'). -/
inductive Item where
  | box (b : Nat) (t : TypeId) (cs : List Value)
  | row (A : Option Addr) (n c : Nat) (t : TypeId) (k : Nat) (xs : List Value)
  | vw (A : Option Addr) (n k : Nat) (xs : List Value)
  | fz (A : Option Addr) (n c : Nat) (t : TypeId) (k : Nat) (xs : List Value)
  | obj (b : Nat) (o : Obj)
def Item.blk : Item → Option Nat
  | .box b _ _ => some b
  | .obj b _ => some b
  | .row A _ _ _ _ _ => A.map (·.block)
  | .fz A _ _ _ _ _ => A.map (·.block)
  | .vw _ 0 _ _ => none
  | .vw A (_ + 1) _ _ => A.map (·.block)
/-- It may be written. -/
def Item.mine : Item → Bool
  | .vw .. => false
  | _ => true
def Item.holds (w : World) : Item → Prop
  | .box b t cs => w.heap[b]? = some (.cells cs.toArray t (0, 0))
  | .row A n c t k xs => w.ownsRow 0 t k (.slice A n c) n xs
  | .fz A n c t k xs => w.ownsRowF 0 t k (.slice A n c) n xs
  | .obj b o => w.heap[b]? = some o
  | .vw A n k xs => xs.length = n * k ∧ n ≤ maxLen ∧ (0 < n → ∃ b off, A = some ⟨b, off, none⟩ ∧ b < w.heap.size ∧ ∀ j u, xs[j]? = some u → w.cell? ⟨b, off + j, none⟩ = some u)
theorem Item.holds.lt {w : World} {it : Item} (h : it.holds w) {b : Nat} (hb : it.blk = some b) : b < w.heap.size := by
  cases it with
  | box b' t cs =>
    simp only [Item.blk, Option.some.injEq] at hb
    subst hb
    rcases Nat.lt_or_ge b' w.heap.size with hl | hl
    · exact hl
    · simp only [Item.holds] at h
      rw [Array.getElem?_eq_none hl] at h; cases h
  | obj b' o =>
    simp only [Item.blk, Option.some.injEq] at hb
    subst hb
    rcases Nat.lt_or_ge b' w.heap.size with hl | hl
    · exact hl
    · simp only [Item.holds] at h
      rw [Array.getElem?_eq_none hl] at h; cases h
  | row A n c t k xs =>
    refine (World.ownsRow.lt h b ?_).2
    cases A with
    | none => simp [Item.blk] at hb
    | some a => simpa [Item.blk, Value.ownBlock] using hb
  | fz A n c t k xs =>
    refine (World.ownsRowF.lt h b ?_).2
    cases A with
    | none => simp [Item.blk] at hb
    | some a => simpa [Item.blk, Value.ownBlock] using hb
  | vw A n k xs =>
    cases n with
    | zero => simp [Item.blk] at hb
    | succ n =>
      obtain ⟨b', off, rfl, hlt, _⟩ := h.2.2 (by omega)
      simp only [Item.blk, Option.map_some, Option.some.injEq] at hb
      omega
/-- Two items share no block, unless both are read alone. -/
def Item.apart (x y : Item) : Prop := (x.mine = false ∧ y.mine = false) ∨ ∀ b, x.blk = some b → y.blk ≠ some b
theorem Item.apart.symm {x y : Item} (h : x.apart y) : y.apart x := h.imp (fun ⟨a, b⟩ => ⟨b, a⟩) fun h b hb e => h b e hb
theorem Item.apart.ne {x y : Item} (h : x.apart y) (hm : x.mine = true) : ∀ b, x.blk = some b → y.blk ≠ some b := by
  rcases h with ⟨h1, _⟩ | h
  · rw [hm] at h1; cases h1
  · exact h
/-- What holds of an item hangs on its block alone. -/
theorem Item.holds.keep {w w' : World} {it : Item} (h : it.holds w) (hs : w.heap.size ≤ w'.heap.size) (hk : ∀ b, it.blk = some b → w'.heap[b]? = w.heap[b]?) : it.holds w' := by
  cases it with
  | vw A n k xs =>
    refine ⟨h.1, h.2.1, fun hn => ?_⟩
    obtain ⟨b, off, rfl, hlt, hc⟩ := h.2.2 hn
    refine ⟨b, off, rfl, by omega, fun j u hu => (World.cell?_of_block (w := w) (a := ⟨b, off + j, none⟩) (hk b ?_)).trans (hc j u hu)⟩
    cases n with
    | zero => omega
    | succ n => rfl
  | box b t cs => exact (hk b rfl).trans h
  | obj b o => exact (hk b rfl).trans h
  | row A n c t k xs =>
    rcases h.2 with h2 | ⟨g, cap, cur, hv, hg, hh, r⟩
    · exact ⟨h.1, .inl h2⟩
    · exact ⟨h.1, .inr ⟨g, cap, cur, hv, hg, (hk g (by injection hv with hv; rw [hv]; rfl)).trans hh, r⟩⟩
  | fz A n c t k xs =>
    rcases h.2 with h2 | ⟨g, cap, cur, fz, hv, hg, hh, r⟩
    · exact ⟨h.1, .inl h2⟩
    · exact ⟨h.1, .inr ⟨g, cap, cur, fz, hv, hg, (hk g (by injection hv with hv; rw [hv]; rfl)).trans hh, r⟩⟩

/-- But for the blocks of D what was there is as it was. -/
structure Ext (D : Nat → Prop) (w w' : World) : Prop where
  os : w'.os = w.os
  tape : w'.tape = w.tape
  output : w'.output = w.output
  size : w.heap.size ≤ w'.heap.size
  block : ∀ k, k < w.heap.size → ¬ D k → w'.heap[k]? = w.heap[k]?
section
variable {D : Nat → Prop} {w w' w'' : World}
theorem Ext.refl : Ext D w w := ⟨rfl, rfl, rfl, Nat.le_refl _, fun _ _ _ => rfl⟩
theorem Ext.trans (h : Ext D w w') (k : Ext D w' w'') : Ext D w w'' :=
  ⟨k.os.trans h.os, k.tape.trans h.tape, k.output.trans h.output, Nat.le_trans h.size k.size, fun i hi hd => (k.block i (Nat.lt_of_lt_of_le hi h.size) hd).trans (h.block i hi hd)⟩
theorem Ext.of_below (h : Below w.heap.size w w') : Ext D w w' := ⟨h.os, h.tape, h.output, h.size, fun k hk _ => h.block k hk⟩
theorem Ext.below (h : Ext (fun _ => False) w w') : Below w.heap.size w w' := ⟨h.os, h.tape, h.output, h.size, fun k hk => h.block k hk id⟩
end

structure Sat (w0 : World) (D : Nat → Prop) (H : List Item) (w : World) : Prop where
  ext : Ext D w0 w
  holds : ∀ it ∈ H, it.holds w
  own : ∀ it ∈ H, it.mine = true → ∀ b, it.blk = some b → w0.heap.size ≤ b ∨ D b
  apart : H.Pairwise Item.apart

section
variable {w0 w w' : World} {D : Nat → Prop} {H H' : List Item}
theorem Sat.start (w : World) (D : Nat → Prop) : Sat w D [] w := ⟨Ext.refl, by simp, by simp, .nil⟩
theorem Sat.size (h : Sat w0 D H w) : w0.heap.size ≤ w.heap.size := h.ext.size
/-- A step that leaves all blocks that are there alone. -/
theorem Sat.below (h : Sat w0 D H w) (hb : Below w.heap.size w w') : Sat w0 D H w' :=
  ⟨h.ext.trans (Ext.of_below hb), fun it hit => (h.holds it hit).keep hb.size fun b hbk => hb.block b ((h.holds it hit).lt hbk), h.own, h.apart⟩
theorem Sat.drew (h : Sat w0 D H w) : Sat w0 D H { w with drawn := w.drawn + 1 } := h.below ⟨rfl, rfl, rfl, Nat.le_refl _, fun _ _ => rfl⟩
theorem Sat.alloc (h : Sat w0 D H w) (t : TypeId) (cs : List Value) : Sat w0 D (.box w.heap.size t cs :: H) (w.alloc (.cells cs.toArray t)) := by
  have hb : Sat w0 D H (w.alloc (.cells cs.toArray t)) := h.below ((Below.refl _ _).alloc (Nat.le_refl _) _)
  refine ⟨hb.ext, ?_, ?_, ?_⟩
  · intro it hit
    rcases List.mem_cons.1 hit with rfl | hit
    · exact heap_alloc_new w _
    · exact hb.holds it hit
  · intro it hit
    rcases List.mem_cons.1 hit with rfl | hit
    · intro _ b hbk
      simp only [Item.blk, Option.some.injEq] at hbk
      subst hbk
      exact .inl h.size
    · exact hb.own it hit
  · refine List.Pairwise.cons (fun it hit => .inr fun b hbk e => ?_) hb.apart
    simp only [Item.blk, Option.some.injEq] at hbk
    subst hbk
    have := (h.holds it hit).lt e
    omega
/-- One item turns, and its block alone. -/
theorem Sat.turn {i : Nat} {it it' : Item} (h : Sat w0 D H w) (hi : H[i]? = some it) (hm : it.mine = true) (he : ∀ b, it'.blk = some b → it.blk = some b ∨ (w.heap.size ≤ b)) (hw : it'.holds w')
    (hx : ∀ b, b < w.heap.size → it.blk ≠ some b → w'.heap[b]? = w.heap[b]?) (hs : w.heap.size ≤ w'.heap.size) (h1 : w'.os = w.os) (h2 : w'.tape = w.tape) (h3 : w'.output = w.output) : Sat w0 D (H.set i it') w' := by
  obtain ⟨hil, hie⟩ := List.getElem?_eq_some_iff.1 hi
  have hmem : it ∈ H := List.mem_of_getElem? hi
  have hown := h.own it hmem hm
  have hne : ∀ j (hj : j < H.length), j ≠ i → ∀ b, H[j].blk = some b → it.blk ≠ some b := fun j hj hji b hb e => by
    rcases Nat.lt_or_ge j i with hlt | hge
    · have := List.pairwise_iff_getElem.1 h.apart j i hj hil hlt
      rw [hie] at this
      exact this.symm.ne hm b e hb
    · have := List.pairwise_iff_getElem.1 h.apart i j hil hj (by omega)
      rw [hie] at this
      exact this.ne hm b e hb
  have key : ∀ j (hj : j < H.length), j ≠ i → H[j].holds w' := fun j hj hji =>
    (h.holds _ (List.getElem_mem hj)).keep hs fun b hb => hx b ((h.holds _ (List.getElem_mem hj)).lt hb) (hne j hj hji b hb)
  have hown' : ∀ b, it'.blk = some b → w0.heap.size ≤ b ∨ D b := fun b hb => by
    rcases he b hb with e | e
    · exact hown b e
    · exact .inl (Nat.le_trans h.size e)
  have hap : ∀ j (hj : j < H.length), j ≠ i → ∀ b, H[j].blk = some b → it'.blk ≠ some b := fun j hj hji b hb e => by
    rcases he b e with e' | e'
    · exact hne j hj hji b hb e'
    · have := (h.holds _ (List.getElem_mem hj)).lt hb
      omega
  refine ⟨⟨h1.trans h.ext.os, h2.trans h.ext.tape, h3.trans h.ext.output, Nat.le_trans h.size hs, fun k hk hd => (hx k (Nat.lt_of_lt_of_le hk h.size) (fun e => ?_)).trans (h.ext.block k hk hd)⟩, ?_, ?_, ?_⟩
  · rcases hown k e with hh | hh
    · omega
    · exact hd hh
  · intro x hxm
    obtain ⟨j, hj, rfl⟩ := List.getElem_of_mem hxm
    rw [List.getElem_set]
    split
    · exact hw
    · rename_i hji
      exact key j (by simpa using hj) (fun e => hji e.symm)
  · intro x hxm hxmine b hb
    obtain ⟨j, hj, rfl⟩ := List.getElem_of_mem hxm
    rw [List.getElem_set] at hb hxmine
    split at hb
    · exact hown' b hb
    · rename_i hji
      rw [if_neg hji] at hxmine
      exact h.own _ (List.getElem_mem _) hxmine b hb
  · rw [List.pairwise_iff_getElem]
    intro p q hp hq hpq
    rw [List.getElem_set, List.getElem_set]
    have hp' : p < H.length := by simpa using hp
    have hq' : q < H.length := by simpa using hq
    split
    · rename_i e1
      rw [if_neg (by omega)]
      exact .inr fun b hb e => hap q hq' (by omega) b e hb
    · rename_i e1
      split
      · exact .inr fun b hb e => hap p hp' (by omega) b hb e
      · exact List.pairwise_iff_getElem.1 h.apart p q hp' hq' hpq
end
/-- A choice of items, by their places. -/
def Pick (idx : List Nat) (H H' : List Item) : Prop := idx.Nodup ∧ idx.map (fun i => H[i]?) = H'.map some
theorem Sat.pick {w0 w : World} {D : Nat → Prop} {H H' : List Item} {idx : List Nat} (h : Sat w0 D H w) (hp : Pick idx H H') : Sat w0 D H' w := by
  obtain ⟨hn, he⟩ := hp
  have hlen : idx.length = H'.length := by simpa using congrArg List.length he
  have hget : ∀ j (hj : j < H'.length), ∃ hj' : j < idx.length, H[idx[j]]? = some H'[j] := fun j hj => by
    refine ⟨by omega, ?_⟩
    have := congrArg (fun l => l[j]?) he
    simp only [List.getElem?_map] at this
    rw [List.getElem?_eq_getElem (by omega), List.getElem?_eq_getElem hj] at this
    simpa using this
  have hmem : ∀ it ∈ H', it ∈ H := fun it hit => by
    obtain ⟨j, hj, rfl⟩ := List.getElem_of_mem hit
    obtain ⟨_, h2⟩ := hget j hj
    exact List.mem_of_getElem? h2
  refine ⟨h.ext, fun it hit => h.holds it (hmem it hit), fun it hit => h.own it (hmem it hit), ?_⟩
  rw [List.pairwise_iff_getElem]
  intro p q hp hq hpq
  obtain ⟨hp', h1⟩ := hget p hp
  obtain ⟨hq', h2⟩ := hget q hq
  obtain ⟨l1, e1⟩ := List.getElem?_eq_some_iff.1 h1
  obtain ⟨l2, e2⟩ := List.getElem?_eq_some_iff.1 h2
  have hne : idx[p] ≠ idx[q] := fun e => by
    exact List.pairwise_iff_getElem.1 hn p q hp' hq' hpq e
  rw [← e1, ← e2]
  rcases Nat.lt_or_ge idx[p] idx[q] with hlt | hge
  · exact List.pairwise_iff_getElem.1 h.apart _ _ l1 l2 hlt
  · exact (List.pairwise_iff_getElem.1 h.apart _ _ l2 l1 (by omega)).symm

section
variable {P : Program} {w0 : World} {D : Nat → Prop} {n : Nat} [Dfr]
structure WC (P : Program) (w0 : World) (D : Nat → Prop) (n : Nat) (c : Code) (Q : Exit → Act → World → Prop) (τ : Tm) (H : List Item) : Prop where
  go : ∀ a w, Has n τ a → Sat w0 D H w → c.wp P Q a w
structure WL (P : Program) (w0 : World) (D : Nat → Prop) (n : Nat) (ops : Array Oper) (Q : Exit → Act → World → Prop) (l : List Oper) (τ : Tm) (H : List Item) : Prop where
  go : ∀ a w, Has n τ a → Sat w0 D H w → wpList P ops Q l a w
structure WQ (w0 : World) (D : Nat → Prop) (n : Nat) (q : Act → World → Prop) (τ : Tm) (H : List Item) : Prop where
  go : ∀ a w, Has n τ a → Sat w0 D H w → q a w

variable {Q : Exit → Act → World → Prop} {K : Act → World → Prop} {τ τ' : Tm} {H H' : List Item} {x y : Code} {ops : Array Oper}
theorem WC.seq (h : WC P w0 D n x (Exit.then (y.wp P Q) Q) τ H) : WC P w0 D n (.seq x y) Q τ H := ⟨fun a w ha hw => wp_seq (h.go a w ha hw)⟩
theorem WC.skip (h : WQ w0 D n (Q .normal) τ H) : WC P w0 D n .skip Q τ H := ⟨fun a w ha hw => wp_skip (h.go a w ha hw)⟩
theorem WC.ret (h : WQ w0 D n (Q .ret) τ H) : WC P w0 D n .ret Q τ H := ⟨fun a w ha hw => wp_ret (h.go a w ha hw)⟩
theorem WC.exit {i : Nat} (h : WQ w0 D n (Q (.exit i)) τ H) : WC P w0 D n (.exit i) Q τ H := ⟨fun a w ha hw => wp_exit (h.go a w ha hw)⟩
theorem WC.block {i : Nat} (h : WC P w0 D n x (Exit.inBlock i Q) τ H) : WC P w0 D n (.block i x) Q τ H := ⟨fun a w ha hw => wp_block (h.go a w ha hw)⟩
theorem WC.cond {c : Operand} {b : Bool} (hc : evl τ c = some (.bool b)) (ht : b = true → WC P w0 D n x Q τ H) (hf : b = false → WC P w0 D n y Q τ H) : WC P w0 D n (.cond c x y) Q τ H :=
  ⟨fun a w ha hw => wp_cond_split (ha.ev hc) (fun h => (ht h).go a w ha hw) (fun h => (hf h).go a w ha hw)⟩
theorem WC.condT {c : Operand} (hc : evl τ c = some (.bool true)) (ht : WC P w0 D n x Q τ H) : WC P w0 D n (.cond c x y) Q τ H := WC.cond hc (fun _ => ht) (fun h => Bool.noConfusion h)
theorem WC.condF {c : Operand} (hc : evl τ c = some (.bool false)) (hf : WC P w0 D n y Q τ H) : WC P w0 D n (.cond c x y) Q τ H := WC.cond hc (fun h => Bool.noConfusion h) (fun _ => hf)
theorem WC.condTh {c : Operand} {b : Bool} (hc : evl τ c = some (.bool b)) (hb : b = true) (ht : WC P w0 D n x Q τ H) : WC P w0 D n (.cond c x y) Q τ H := WC.condT (by rw [hc, hb]) ht
theorem WC.condFh {c : Operand} {b : Bool} (hc : evl τ c = some (.bool b)) (hb : b = false) (hf : WC P w0 D n y Q τ H) : WC P w0 D n (.cond c x y) Q τ H := WC.condF (by rw [hc, hb]) hf
theorem eqT {a b : Int} (h : (a == b) = true) : a = b := by simpa using h
theorem eqF {a b : Int} (h : (a == b) = false) : a ≠ b := by simpa using h
theorem neT {a b : Int} (h : (a != b) = true) : a ≠ b := by simpa using h
theorem neF {a b : Int} (h : (a != b) = false) : a = b := by simpa using h
theorem noT {b : Bool} (h : (!b) = true) : b = false := by simpa using h
theorem noF {b : Bool} (h : (!b) = false) : b = true := by simpa using h
theorem beqT {a b : Int} (h : a = b) : (a == b) = true := by simp [h]
theorem beqF {a b : Int} (h : a ≠ b) : (a == b) = false := by simp [h]
theorem bneT {a b : Int} (h : a ≠ b) : (a != b) = true := by simp [h]
theorem bneF {a b : Int} (h : a = b) : (a != b) = false := by simp [h]
theorem notT {b : Bool} (h : b = false) : (!b) = true := by simp [h]
theorem notF {b : Bool} (h : b = true) : (!b) = false := by simp [h]
theorem WC.condP {c : Operand} {p : Prop} [Decidable p] (hc : evl τ c = some (.bool (decide p))) (ht : p → WC P w0 D n x Q τ H) (hf : ¬ p → WC P w0 D n y Q τ H) : WC P w0 D n (.cond c x y) Q τ H :=
  WC.cond hc (fun h => ht (of_decide_eq_true h)) (fun h => hf (of_decide_eq_false h))
theorem WC.condE {c : Operand} {p q : Int} (hc : evl τ c = some (.bool (p == q))) (ht : p = q → WC P w0 D n x Q τ H) (hf : p ≠ q → WC P w0 D n y Q τ H) : WC P w0 D n (.cond c x y) Q τ H :=
  WC.cond hc (fun h => ht (by simpa using h)) (fun h => hf (by simpa using h))
theorem WC.condN {c : Operand} {p q : Int} (hc : evl τ c = some (.bool (p != q))) (ht : p ≠ q → WC P w0 D n x Q τ H) (hf : p = q → WC P w0 D n y Q τ H) : WC P w0 D n (.cond c x y) Q τ H :=
  WC.cond hc (fun h => ht (by simpa using h)) (fun h => hf (by simpa using h))
theorem WC.region {i : Nat} {l : List Oper} (h : WL P w0 D n l.toArray Q l τ H) : WC P w0 D n (.region i l.toArray false) Q τ H := ⟨fun a w ha hw => wp_region_lit (h.go a w ha hw)⟩
theorem WC.scope (h : WC P w0 D n x (Exit.noGoto Q) τ H) : WC P w0 D n (.scope x) Q τ H := ⟨fun a w ha hw => wp_scope_straight (h.go a w ha hw)⟩
theorem WC.label {i : Nat} (h : WQ w0 D n (Q .normal) τ H) : WC P w0 D n (.label i) Q τ H := ⟨fun a w ha hw => wp_label (h.go a w ha hw)⟩
theorem WQ.ngN (h : WQ w0 D n (Q .normal) τ H) : WQ w0 D n (Exit.noGoto Q .normal) τ H := ⟨h.go⟩
theorem WQ.ngR (h : WQ w0 D n (Q .ret) τ H) : WQ w0 D n (Exit.noGoto Q .ret) τ H := ⟨h.go⟩
theorem WQ.ngX {i : Nat} (h : WQ w0 D n (Q (.exit i)) τ H) : WQ w0 D n (Exit.noGoto Q (.exit i)) τ H := ⟨h.go⟩
theorem WC.sub {idx : List Nat} (hs : Sub τ τ') (hp : Pick idx H H') (h : WC P w0 D n x Q τ' H') : WC P w0 D n x Q τ H := ⟨fun a w ha hw => h.go a w (ha.sub hs.look) (hw.pick hp)⟩
theorem WL.nil (h : WQ w0 D n (Q .normal) τ H) : WL P w0 D n ops Q [] τ H := ⟨h.go⟩
theorem WQ.code (h : WC P w0 D n y Q τ H) : WQ w0 D n (y.wp P Q) τ H := ⟨h.go⟩
theorem WQ.thenN (h : WQ w0 D n K τ H) : WQ w0 D n (Exit.then K Q .normal) τ H := ⟨h.go⟩
theorem WQ.thenR (h : WQ w0 D n (Q .ret) τ H) : WQ w0 D n (Exit.then K Q .ret) τ H := ⟨h.go⟩
theorem WQ.thenX {i : Nat} (h : WQ w0 D n (Q (.exit i)) τ H) : WQ w0 D n (Exit.then K Q (.exit i)) τ H := ⟨h.go⟩
theorem WQ.blkN {i : Nat} (h : WQ w0 D n (Q .normal) τ H) : WQ w0 D n (Exit.inBlock i Q .normal) τ H := ⟨h.go⟩
theorem WQ.blkR {i : Nat} (h : WQ w0 D n (Q .ret) τ H) : WQ w0 D n (Exit.inBlock i Q .ret) τ H := ⟨h.go⟩
theorem WQ.blkX {i j : Nat} (hij : Nat.beq j i = true) (h : WQ w0 D n (Q .normal) τ H) : WQ w0 D n (Exit.inBlock i Q (.exit j)) τ H := ⟨fun a w ha hw => by
  have := Nat.eq_of_beq_eq_true hij
  subst this
  simp only [Exit.inBlock, if_true]
  exact h.go a w ha hw⟩
theorem WQ.blkY {i j : Nat} (hij : Nat.beq j i = false) (h : WQ w0 D n (Q (.exit j)) τ H) : WQ w0 D n (Exit.inBlock i Q (.exit j)) τ H := ⟨fun a w ha hw => by
  have : j ≠ i := fun e => by subst e; simp [Nat.beq_refl] at hij
  simp only [Exit.inBlock, if_neg this]
  exact h.go a w ha hw⟩
/-- What a round hands on. -/
def Rnd (w0 : World) (D : Nat → Prop) (n : Nat) (I : Nat → Tm → List Item → Prop) (m : Nat) (a : Act) (w : World) : Prop := ∃ m', m' < m ∧ ∃ τ H, I m' τ H ∧ Has n τ a ∧ Sat w0 D H w
theorem WC.loop (I : Nat → Tm → List Item → Prop) (m0 : Nat) (τ' : Tm) (H' : List Item) (idx : List Nat) (hs : Sub τ τ') (hp : Pick idx H H') (h0 : I m0 τ' H')
    (round : ∀ m τ H, I m τ H → WC P w0 D n x (Exit.then (Rnd w0 D n I m) Q) τ H) : WC P w0 D n (.loop x) Q τ H := ⟨fun a w ha hw =>
  wp_loop_ghost (fun m a w => ∃ τ H, I m τ H ∧ Has n τ a ∧ Sat w0 D H w) m0 ⟨τ', H', h0, ha.sub hs.look, hw.pick hp⟩ fun m a w ⟨τ1, H1, h1, h2, h3⟩ => (round m τ1 H1 h1).go a w h2 h3⟩
theorem WQ.rnd {I : Nat → Tm → List Item → Prop} {m : Nat} (m' : Nat) (τ' : Tm) (H' : List Item) (idx : List Nat) (hs : Sub τ τ') (hp : Pick idx H H') (hm : m' < m) (hI : I m' τ' H') : WQ w0 D n (Rnd w0 D n I m) τ H :=
  ⟨fun a w ha hw => ⟨m', hm, τ', H', hI, ha.sub hs.look, hw.pick hp⟩⟩
/-- Ways that meet again. -/
def Met (w0 : World) (D : Nat → Prop) (n : Nat) (I : Tm → List Item → Prop) (a : Act) (w : World) : Prop := ∃ τ H, I τ H ∧ Has n τ a ∧ Sat w0 D H w
theorem WC.seqCut (I : Tm → List Item → Prop) (h : WC P w0 D n x (Exit.then (Met w0 D n I) Q) τ H) (hr : ∀ τ H, I τ H → WC P w0 D n y Q τ H) : WC P w0 D n (.seq x y) Q τ H := ⟨fun a w ha hw =>
  wp_seq (wp_mono (h.go a w ha hw) fun e a w he => by
    cases e <;> first | (obtain ⟨τ, H, h1, h2, h3⟩ := he; exact (hr τ H h1).go a w h2 h3) | exact he)⟩
theorem WC.cut {Q' : Exit → Act → World → Prop} (I : Tm → List Item → Prop) (h : WC P w0 D n x (Exit.then (Met w0 D n I) Q) τ H) (hr : ∀ τ H, I τ H → WC P w0 D n y Q' τ H) : WC P w0 D n x (Exit.then (y.wp P Q') Q) τ H := ⟨fun a w ha hw =>
  wp_mono (h.go a w ha hw) fun e a w he => by
    cases e <;> first | (obtain ⟨τ, H, h1, h2, h3⟩ := he; exact (hr τ H h1).go a w h2 h3) | exact he⟩
theorem WQ.met {I : Tm → List Item → Prop} (τ' : Tm) (H' : List Item) (idx : List Nat) (hs : Sub τ τ') (hp : Pick idx H H') (hI : I τ' H') : WQ w0 D n (Met w0 D n I) τ H :=
  ⟨fun a w ha hw => ⟨τ', H', hI, ha.sub hs.look, hw.pick hp⟩⟩

/-- The results of a function, read. -/
def Reads (P : Program) (w0 : World) (D : Nat → Prop) (n : Nat) (τ : Tm) (H : List Item) (fn : Func) (v : Value) : Prop := ∀ a w, Has n τ a → Sat w0 D H w → (results fn a.tmps).run P w = .ok v w
theorem WQ.body {fn : Func} {R : Ending → World → Prop} {v : Value} (hr : Reads P w0 D n τ H fn v) (h : ∀ w, Sat w0 D H w → R (.returned v) w) (hd : (Dfr.ds : List Deferred) = [] := by rfl) : WQ w0 D n (bodyPost P fn R .ret) τ H :=
  ⟨fun a w ha hw => bodyPost_ret (hr a w ha hw) (ha.defers.trans hd) (h w hw)⟩
theorem WQ.bodyN {fn : Func} {R : Ending → World → Prop} {v : Value} (hr : Reads P w0 D n τ H fn v) (h : ∀ w, Sat w0 D H w → R (.returned v) w) (hd : (Dfr.ds : List Deferred) = [] := by rfl) : WQ w0 D n (bodyPost P fn R .normal) τ H :=
  ⟨fun a w ha hw => bodyPost_end (hr a w ha hw) (ha.defers.trans hd) (h w hw)⟩
theorem Has.getD {a' : Act} (h : Has n τ a') {t : Nat} {v : Value} (ht : look τ t = some v) : a'.tmps.getD t undef = v := by
  have := h.at_ t v ht
  simp [Array.getD_eq_getD_getElem?, this]
theorem Reads.none {fn : Func} (hf : fn.results = #[]) : Reads P w0 D n τ H fn (.tuple #[]) := fun a w ha hw => by simp [results, hf]
theorem Reads.tmp {fn : Func} {t : Nat} {v : Value} (hf : fn.results = #[.tmp t]) (ht : look τ t = some v) : Reads P w0 D n τ H fn v := fun a w ha hw => by
  have := ha.at_ t v ht
  simp [results, hf, this]
theorem Reads.tmp2 {fn : Func} {t u : Nat} {v v' : Value} (hf : fn.results = #[.tmp t, .tmp u]) (ht : look τ t = some v) (hu : look τ u = some v') : Reads P w0 D n τ H fn (.tuple #[v, v']) := fun a w ha hw => by
  have h1 := ha.at_ t v ht
  have h2 := ha.at_ u v' hu
  simp [results, hf, h1, h2]

/-- One operation. -/
structure StepTo (P : Program) (w0 : World) (D : Nat → Prop) (n : Nat) (o : Oper) (τ : Tm) (H : List Item) (K : Tm → List Item → Prop) : Prop where
  go : ∀ (Kw : Act → World → Prop) (Q : Exit → Act → World → Prop), (∀ τ' H', K τ' H' → ∀ a w, Has n τ' a → Sat w0 D H' w → Kw a w) → ∀ a w, Has n τ a → Sat w0 D H w → o.wp P a w Kw Q
theorem WL.step {o : Oper} {l : List Oper} (hg : o.guard = none) (h : StepTo P w0 D n o τ H (WL P w0 D n ops Q l)) : WL P w0 D n ops Q (o :: l) τ H :=
  ⟨fun a w ha hw => wpList_plain hg fun K hK => h.go K Q (fun τ' H' hk a w ha hw => hK a w (hk.go a w ha hw)) a w ha hw⟩
/-- An operation that yields a value and does nothing else. -/
structure Yld (P : Program) (w0 : World) (D : Nat → Prop) (n : Nat) (o : Oper) (τ : Tm) (H : List Item) (v : Value) : Prop where
  go : ∀ a w, Has n τ a → Sat w0 D H w → (execOp a.eval o).run P w = .ok (.value v) w
theorem StepTo.yld {o : Oper} {v : Value} {K : Tm → List Item → Prop} (h : Yld P w0 D n o τ H v) (hd : okd n o.dst = true) (hK : K (upd τ o.dst v) H) : StepTo P w0 D n o τ H K := ⟨fun Kw Q hk a w ha hw => by
  unfold Oper.wp
  rw [h.go a w ha hw]
  exact hk _ _ hK _ _ (ha.put _ _ hd) hw⟩
theorem WL.yld {d : Nat} {op : Op} {ty : TypeId} {pos : String} {after : Array Edge} {l : List Oper} {v : Value} (hd : Nat.blt d n = true) (h : Yld P w0 D n ⟨some d, op, ty, pos, after, none⟩ τ H v) (hK : WL P w0 D n ops Q l ((d, v) :: τ) H) :
    WL P w0 D n ops Q (⟨some d, op, ty, pos, after, none⟩ :: l) τ H :=
  WL.step rfl (StepTo.yld h hd hK)
/-- A guarded operation whose guard is not met. -/
theorem WL.skip {d j : Nat} {op : Op} {ty : TypeId} {pos : String} {after : Array Edge} {l : List Oper} {want b : Bool} {jt : Tmp} {oj : Oper} (hd : Nat.blt d n = true) (hj : ops[j]? = some oj) (hjd : oj.dst = some jt) (hb : look τ jt = some (.bool b)) (hw : b = !want)
    (hK : WL P w0 D n ops Q l ((d, undef) :: τ) H) : WL P w0 D n ops Q (⟨some d, op, ty, pos, after, some (j, want)⟩ :: l) τ H :=
  ⟨fun a w ha hw' => by
    unfold wpList
    have hy : yielded ops a.tmps j = some b := by
      simp [yielded, hj, hjd, ha.at_ jt _ hb]
    rw [if_neg (by simp [Region.wanted, hy, hw])]
    exact hK.go _ w (ha.put (some d) undef hd) hw'⟩
theorem WL.guard {dst : Option Tmp} {j : Nat} {op : Op} {ty : TypeId} {pos : String} {after : Array Edge} {l : List Oper} {want b : Bool} {jt : Tmp} {oj : Oper} (hj : ops[j]? = some oj) (hjd : oj.dst = some jt) (hb : look τ jt = some (.bool b)) (hw : b = want)
    (hK : StepTo P w0 D n ⟨dst, op, ty, pos, after, some (j, want)⟩ τ H (WL P w0 D n ops Q l)) : WL P w0 D n ops Q (⟨dst, op, ty, pos, after, some (j, want)⟩ :: l) τ H :=
  ⟨fun a w ha hw' => by
    refine wpList_step fun K hk => ?_
    have hy : yielded ops a.tmps j = some b := by
      simp [yielded, hj, hjd, ha.at_ jt _ hb]
    rw [if_pos (by simp [Region.wanted, hy, hw])]
    exact hK.go K Q (fun τ' H' hk' a w ha hw => hk a w (hk'.go a w ha hw)) a w ha hw'⟩
theorem WL.yldG {d j : Nat} {op : Op} {ty : TypeId} {pos : String} {after : Array Edge} {l : List Oper} {v : Value} {want b : Bool} {jt : Tmp} {oj : Oper} (hd : Nat.blt d n = true) (hj : ops[j]? = some oj) (hjd : oj.dst = some jt) (hb : look τ jt = some (.bool b)) (hw : b = want)
    (h : Yld P w0 D n ⟨some d, op, ty, pos, after, some (j, want)⟩ τ H v) (hK : WL P w0 D n ops Q l ((d, v) :: τ) H) :
    WL P w0 D n ops Q (⟨some d, op, ty, pos, after, some (j, want)⟩ :: l) τ H :=
  WL.guard hj hjd hb hw (StepTo.yld h hd hK)
omit [Dfr] in
/-- The arguments as temporaries. -/
def argT : Nat → List Value → Tm
  | _, [] => []
  | k, v :: r => (k, v) :: argT (k + 1) r
theorem look_argT : ∀ (l : List Value) (k t : Nat) (v : Value), look (argT k l) t = some v → k ≤ t ∧ l[t - k]? = some v
  | [], k, t, v, h => by simp [argT, look] at h
  | u :: r, k, t, v, h => by
    simp only [argT, look] at h
    by_cases e : k = t
    · subst e
      simp [Nat.beq_refl] at h
      exact ⟨Nat.le_refl _, by simpa using h⟩
    · have e' : Nat.beq k t = false := by
        cases hb : Nat.beq k t with
        | false => rfl
        | true => exact absurd (Nat.eq_of_beq_eq_true hb) e
      rw [e'] at h
      obtain ⟨h1, h2⟩ := look_argT r (k + 1) t v h
      refine ⟨by omega, ?_⟩
      rw [show t - k = (t - (k + 1)) + 1 from by omega, List.getElem?_cons_succ]
      exact h2
/-- Into a function. -/
theorem enterW {P : Program} {f : FuncId} {fn : Func} {c : Code} {args : List Value} {w : World} {R : Ending → World → Prop} (D : Nat → Prop) (n : Nat) (hf : P.funcs[f]? = some fn) (hb : fn.body = some c)
    (hn : args.length + (fn.ntmps - args.length) = n) (h : WC P w D n c (bodyPost P fn R) (argT 0 args) []) (hd : (Dfr.ds : List Deferred) = [] := by rfl) : Calls P f args.toArray w R := by
  refine calls_of_wp hf hb (h.go _ w ⟨by simpa using hn, hd.symm, fun t v ht => ?_⟩ (Sat.start w D))
  have := (look_argT _ _ _ _ ht).2
  show (args.toArray ++ Array.replicate (fn.ntmps - args.toArray.size) undef)[t]? = some v
  have hlt := (List.getElem?_eq_some_iff.1 this).1
  rw [Array.getElem?_append_left (by simpa using hlt)]
  simpa using this
/-- Into a function that is handed memory to write. -/
theorem enterM {P : Program} {f : FuncId} {fn : Func} {c : Code} {args : List Value} {w : World} {R : Ending → World → Prop} {H : List Item} (D : Nat → Prop) (n : Nat) (hs : Sat w D H w) (hf : P.funcs[f]? = some fn) (hb : fn.body = some c)
    (hn : args.length + (fn.ntmps - args.length) = n) (h : WC P w D n c (bodyPost P fn R) (argT 0 args) H) (hd : (Dfr.ds : List Deferred) = [] := by rfl) : Calls P f args.toArray w R := by
  refine calls_of_wp hf hb (h.go _ w ⟨by simpa using hn, hd.symm, fun t v ht => ?_⟩ hs)
  have := (look_argT _ _ _ _ ht).2
  show (args.toArray ++ Array.replicate (fn.ntmps - args.toArray.size) undef)[t]? = some v
  have hlt := (List.getElem?_eq_some_iff.1 this).1
  rw [Array.getElem?_append_left (by simpa using hlt)]
  simpa using this
end
end Go.Proofs.Ythbhjnmkbmmcnaa
