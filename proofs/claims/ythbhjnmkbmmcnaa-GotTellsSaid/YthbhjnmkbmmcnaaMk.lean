/- 'make' of slices, over symbolic states. Of whatever program. -/
import Derived.Test.YthbhjnmkbmmcnaaDraw
import Derived.Laws.MakeOwn
namespace Go.Proofs.Ythbhjnmkbmmcnaa
open Go.RowKit Go.IntWalk
set_option linter.unusedVariables false
set_option linter.unusedSectionVars false

theorem madeCells_rep (z : Array Value) (k m : Nat) (u : Value) (h : z.toList = List.replicate k u) : madeCells z (m * k) = (List.replicate (m * k) u).toArray := by
  have hz : z = (List.replicate k u).toArray := by rw [← h]
  subst hz
  apply Array.ext
  · simp [madeCells]
  · intro j h1 h2
    have hk : 0 < k := by
      rcases Nat.eq_zero_or_pos k with rfl | hk
      · simp [madeCells] at h1
      · exact hk
    have hm : j % k < k := Nat.mod_lt _ hk
    simp [madeCells, getElem!_pos, hm]

section
variable {P : Program} {w0 : World} {D : Nat → Prop} {n : Nat} [Dfr] {Q : Exit → Act → World → Prop} {τ : Tm} {H : List Item} {ops : Array Oper} {o : Oper} {l : List Oper} {v v' : Value} {K : Tm → List Item → Prop}
theorem Sat.allocRow {w : World} (h : Sat w0 D H w) (t k m : Nat) (xs : List Value) (hl : xs.length = m * k) (hm : m ≤ maxLen) : Sat w0 D (.row (some ⟨w.heap.size, 0, none⟩) m m t k xs :: H) (w.alloc (.cells xs.toArray t)) := by
  have hA := h.alloc t xs
  refine ⟨hA.ext, ?_, ?_, ?_⟩
  · intro it hit
    rcases List.mem_cons.1 hit with rfl | hit
    · have := World.ownsRow_lit (base := 0) (e := t) (size := k) w xs.toArray m (Nat.zero_le _) hm (by simpa using hl)
      simpa [Item.holds] using this
    · exact hA.holds it (List.mem_cons_of_mem _ hit)
  · intro it hit hmine b hb
    rcases List.mem_cons.1 hit with rfl | hit
    · exact hA.own (.box w.heap.size t xs) (List.mem_cons_self ..) rfl b hb
    · exact hA.own it (List.mem_cons_of_mem _ hit) hmine b hb
  · have hp := hA.apart
    rw [List.pairwise_cons] at hp ⊢
    exact ⟨fun it hit => .inr fun b hb => (hp.1 it hit).ne rfl b hb, hp.2⟩
theorem StepTo.makeRow {t e k by_ d m : Nat} {x y : Operand} {kx ky : IntKind} {p q : Int} {z u : Value} (ho : o.op = .makeSlice t x y) (hdst : o.dst = some d) (hd : Nat.blt d n = true) (hx : evl τ x = some (.int kx p)) (hy : evl τ y = some (.int ky q)) (hp : p = (m : Int)) (hq : q = (m : Int))
    (ht : P.underlying t = some (.slice e)) (hk : (P.info? e).map (·.size) = some k) (hb : (P.info? e).map (·.bytes) = some by_) (hz : (P.info? e).bind (·.zero) = some z) (hu : z.cells.toList = List.replicate k u) (hbb : Nat.ble by_ 256 = true) (hm : m ≤ 549755813888)
    (hK : ∀ b, K ((d, .slice (some ⟨b, 0, none⟩) m m) :: τ) (.row (some ⟨b, 0, none⟩) m m e k (List.replicate (m * k) u) :: H)) : StepTo P w0 D n o τ H K :=
  ⟨fun Kw Q hk' a w ha hw => by
    subst hp
    subst hq
    have hbm : by_ * m ≤ 281474976710656 := by
      have h1 := Nat.le_of_ble_eq_true hbb
      have h2 := Nat.mul_le_mul h1 hm
      omega
    obtain ⟨i, hi, hz'⟩ : ∃ i, P.info? e = some i ∧ i.zero = some z := by
      cases hh : P.info? e with
      | none => rw [hh] at hz; cases hz
      | some i => rw [hh] at hz; exact ⟨i, rfl, hz⟩
    rw [hi] at hk hb
    simp only [Option.map_some, Option.some.injEq] at hk hb
    have hmx : m ≤ maxLen := by unfold maxLen; omega
    have hb' : (i.bytes : Int) * (m : Int) ≤ 281474976710656 := by
      have h : ((i.bytes * m : Nat) : Int) ≤ 281474976710656 := by rw [hb]; omega
      rwa [Int.natCast_mul] at h
    have hr := run_make (P := P) w t e i z ht hi hz' kx ky m m (by omega) (Int.le_refl _) hb' (by omega)
    simp only [Int.toNat_natCast] at hr
    rw [hk, madeCells_rep _ _ _ _ hu] at hr
    have hrun : (execOp a.eval o).run P w = .ok (.value (.slice (some ⟨w.heap.size, 0, none⟩) m m)) (w.alloc (.cells (List.replicate (m * k) u).toArray e)) := by
      simp only [execOp, ho, ha.ev hx, ha.ev hy]
      simp [hr]
    unfold Oper.wp
    rw [hrun, Oper.upon_value, hdst]
    exact hk' _ _ (hK w.heap.size) _ _ (ha.put (some d) _ hd) (hw.allocRow e k m _ (by simp) hmx)⟩
end

section
variable {P : Program} {w0 : World} {D : Nat → Prop} {n : Nat} [Dfr] {Q : Exit → Act → World → Prop} {τ : Tm} {H : List Item} {ops : Array Oper} {o : Oper} {l : List Oper} {v v' : Value} {K : Tm → List Item → Prop}
/-- A quotient of whatever number by one above nought. -/
theorem Yld.quoT {T u : Nat} {x y : Operand} {k k' : IntKind} {p q : Int} (ho : o.op = .binOp .quo T x y u) (hx : evl τ x = some (.int k p)) (hy : evl τ y = some (.int k' q)) (hk : k = k') (hq : 0 < q) (hv : Value.int k (k.wrap (p.tdiv q)) = v) : Yld P w0 D n o τ H v :=
  ⟨fun a w h hw => by
    subst hk
    subst hv
    have hq' : ¬ q = 0 := by omega
    simp [execOp, ho, h.ev hx, h.ev hy, eqGuard, binOp, Op.intDiv, hq']⟩
/-- A cell of a row, by a fact that is at hand. -/
theorem CellAt.rowE (i : Nat) {b m c t k off q : Nat} {xs : List Value} (hi : H[i]? = some (.row (some ⟨b, 0, none⟩) m c t k xs)) (hc : xs[q]? = some v) (e : off = q) : CellAt w0 D H b off v := e ▸ CellAt.row i hi hc
end
/-- A row of integers. -/
def ic (k : IntKind) (x : Int) : List Value := [.int k x]
theorem ic_len (k : IntKind) (x : Int) : (ic k x).length = 1 := rfl
theorem Ints.lst {k : IntKind} {w : World} {B : Nat} {A : Option Addr} {n : Nat} {xs : List Int} (h : Ints k w B A n xs) : Lst (ic k) 1 w B A n xs :=
  ⟨h.len, h.most, fun hn => by
    obtain ⟨b, off, e, hl, hc⟩ := h.at_ hn
    refine ⟨b, off, e, hl, fun i hi j u hu => ?_⟩
    have hj : j = 0 := by
      have := (List.getElem?_eq_some_iff.1 hu).1
      simp [ic] at this
      exact this
    subst hj
    simp only [ic, List.getElem?_cons_zero, Option.some.injEq] at hu
    rw [← hu, Nat.mul_one, Nat.add_zero, hc i (by rw [← h.len]; exact hi), List.getD_eq_getElem?_getD, List.getElem?_eq_getElem hi]
    rfl⟩
end Go.Proofs.Ythbhjnmkbmmcnaa
