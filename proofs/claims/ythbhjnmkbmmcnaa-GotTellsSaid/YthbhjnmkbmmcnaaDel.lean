/- 'clear', and stores of whole elements, in rows, over symbolic states. Of whatever program. -/
import Derived.Test.YthbhjnmkbmmcnaaCut
namespace Go.Proofs.Ythbhjnmkbmmcnaa
open Go.RowKit Go.IntWalk
set_option linter.unusedVariables false
set_option linter.unusedSectionVars false

section
variable {P : Program} {w0 : World} {D : Nat → Prop} {n : Nat} [Dfr] {Q : Exit → Act → World → Prop} {τ : Tm} {H : List Item} {ops : Array Oper} {o : Oper} {l : List Oper} {v v' : Value} {K : Tm → List Item → Prop}
theorem row_block {w : World} {g m c t k : Nat} {xs : List Value} (h : w.ownsRow 0 t k (.slice (some ⟨g, 0, none⟩) m c) m xs) : ∃ cur, w.heap[g]? = some (.cells cur t (0, 0)) ∧ m ≤ c ∧ c ≤ maxLen ∧ cur.size = c * k ∧ cur.toList.take (m * k) = xs := by
  rcases h.2 with ⟨h0, _⟩ | ⟨g', cap, cur, hv, _, hg, h1, h2, h3, h4⟩
  · cases h0
  · simp only [Value.slice.injEq, Option.some.injEq, Addr.mk.injEq, and_true, true_and] at hv
    obtain ⟨rfl, rfl⟩ := hv
    exact ⟨cur, hg, h1, h2, h3, h4⟩
theorem setRow_at {w : World} {g t : Nat} {cur cur' : Array Value} (hg : w.heap[g]? = some (.cells cur t (0, 0))) : (w.setRow g cur').heap[g]? = some (.cells cur' t (0, 0)) := by
  simp [World.setRow, Array.getElem?_modify, hg]
/-- A row whose block is written anew. -/
theorem Sat.setRow {w : World} (hw : Sat w0 D H w) {i g m c t k m' : Nat} {xs ys : List Value} {cur cur' : Array Value} (hi : H[i]? = some (.row (some ⟨g, 0, none⟩) m c t k xs)) (hg : w.heap[g]? = some (.cells cur t (0, 0))) (hm : m' ≤ c) (hc : c ≤ maxLen) (hs : cur'.size = c * k) (ht : cur'.toList.take (m' * k) = ys) (hl : ys.length = m' * k) :
    Sat w0 D (H.set i (.row (some ⟨g, 0, none⟩) m' c t k ys)) (w.setRow g cur') := by
  have hgr := grown_setRow w g cur'
  exact hw.turn hi rfl (fun b' hb' => .inl hb') ⟨hl, .inr ⟨g, c, cur', rfl, Nat.zero_le _, setRow_at hg, hm, hc, hs, ht⟩⟩ (fun k hk hne => hgr.block k hk (fun e => hne (by rw [e]; rfl))) hgr.size hgr.os hgr.tape hgr.output
/-- The end of a row is cleared, and forgotten. -/
theorem StepTo.clearCut {T g m c t k lo : Nat} {x : Operand} {z : Value} {xs : List Value} (i : Nat) (ho : o.op = .call { callee := .builtin .clear, args := #[x], argTypes := #[T] }) (hdn : o.dst = none) (hx : evl τ x = some (.slice (cutA (some ⟨g, 0, none⟩) c lo k) (m - lo) (c - lo)))
    (hi : H[i]? = some (.row (some ⟨g, 0, none⟩) m c t k xs)) (ht : P.underlying T = some (.slice t)) (hz : (P.info? t).bind (·.zero) = some z) (hzs : z.cells.size = k) (h1 : z.cells.toList.all Value.oneCell' = true) (hk0 : Nat.blt 0 k = true) (hlo : lo ≤ m)
    {H2 : List Item} (hH : SetAt H i (.row (some ⟨g, 0, none⟩) lo c t k (xs.take (lo * k))) H2) (hK : K τ H2) : StepTo P w0 D n o τ H K := ⟨fun Kw Q hk a w ha hw => by
  obtain rfl := hH.eq
  have hrow := hw.holds _ (List.mem_of_getElem? hi)
  obtain ⟨cur, hg, hmc, hcm, hsz, hcur⟩ := row_block hrow
  have hk0' : 0 < k := by simpa [Nat.blt, Nat.succ_le_iff] using hk0
  have hzv : ∀ w, (zeroValue t).run P w = .ok z w := fun w => by
    cases hh : P.info? t with
    | none => rw [hh] at hz; cases hz
    | some ii => rw [hh] at hz; simp only [Option.bind_some] at hz; simp [zeroValue, typeInfo, hh, hz]
  have hone : ∀ u ∈ z.cells, u.oneCell' = true := fun u hu => List.all_eq_true.1 h1 u (by simpa using hu)
  have hlk : lo * k ≤ m * k := Nat.mul_le_mul_right k hlo
  have hmk : m * k ≤ c * k := Nat.mul_le_mul_right k hmc
  obtain ⟨cur', hr, h2, h3⟩ : ∃ cur', (Builtin.clear_ #[T] o.type #[.slice (cutA (some ⟨g, 0, none⟩) c lo k) (m - lo) (c - lo)]).run P w = .ok (.tuple #[]) (w.setRow g cur') ∧ cur'.size = cur.size ∧ cur'.toList.take (lo * k) = cur.toList.take (lo * k) := by
    by_cases hc : c = lo
    · subst hc
      have hm0 : m - c = 0 := by omega
      have := run_clear_row (P := P) w T t o.type z k ht hzv hzs hone hk0' g 0 0 (c - c) cur hg (by omega)
      refine ⟨cur, ?_, rfl, rfl⟩
      rw [hm0]
      simp [Builtin.clear_, run_underlying ht, cutA, setRow_self w g cur t (0, 0) hg]
    · have e : cutA (some ⟨g, 0, none⟩) c lo k = some ⟨g, lo * k, none⟩ := by simp [cutA, hc, addr_add]
      rw [e]
      refine run_clear_row (P := P) w T t o.type z k ht hzv hzs hone hk0' g (lo * k) (m - lo) (c - lo) cur hg ?_
      rw [hsz, Nat.sub_mul]
      omega
  have hrun : (execOp a.eval o).run P w = .ok (.value (.tuple #[])) (w.setRow g cur') := by
    simp [execOp, ho, resolve, invoke, builtin, ha.ev hx, hr]
  unfold Oper.wp
  rw [hrun, Oper.upon_value, hdn]
  refine hk _ _ hK _ _ (by simpa [Act.put] using ha) ?_
  refine hw.setRow hi hg (Nat.le_trans hlo hmc) hcm (by rw [h2, hsz]) ?_ ?_
  · rw [h3, ← hcur, List.take_take, Nat.min_eq_left hlk]
  · rw [List.length_take, hrow.1]; omega⟩
/-- A whole element of a row is written. -/
theorem StepTo.storeRowA {T g off m c t k kk : Nat} {x y : Operand} {xs ys vs : List Value} (i : Nat) (ho : o.op = .store T x y) (hdn : o.dst = none) (hx : evl τ x = some (.pointer (some ⟨g, off, none⟩))) (hy : evl τ y = some (.agg vs.toArray)) (hs : (P.info? T).map (·.size) = some kk) (hl : vs.length = kk) (h1 : ∀ u ∈ vs, u.oneCell' = true)
    (hi : H[i]? = some (.row (some ⟨g, 0, none⟩) m c t k xs)) (hf : off + vs.length ≤ xs.length) (hys : xs.take off ++ vs ++ xs.drop (off + vs.length) = ys)
    {H2 : List Item} (hH : SetAt H i (.row (some ⟨g, 0, none⟩) m c t k ys) H2) (hK : K τ H2) : StepTo P w0 D n o τ H K := ⟨fun Kw Q hk a w ha hw => by
  obtain rfl := hH.eq
  have hrow := hw.holds _ (List.mem_of_getElem? hi)
  obtain ⟨cur, hg, hmc, hcm, hsz, hcur⟩ := row_block hrow
  have hxl : xs.length = m * k := hrow.1
  have hmk : m * k ≤ c * k := Nat.mul_le_mul_right k hmc
  have hst := run_storeCells_at P g off t vs 0 cur w hg (by omega) h1
  simp only [Nat.add_zero] at hst
  have hszv : (Value.agg vs.toArray).cells.size = kk := by simp [Value.cells, hl]
  have hrun : (execOp a.eval o).run P w = .ok .skip (w.setRow g (cur.toList.take off ++ vs ++ cur.toList.drop (off + vs.length)).toArray) := by
    simp only [execOp, ho, ha.ev hx, ha.ev hy]
    simp only [Value.cells] at hszv
    simp [Instr.storeAt, Instr.sureAddr, storeVar, run_sizeOf hs, hszv, Value.cells, hst, hl]
  unfold Oper.wp
  rw [hrun]
  refine hk _ _ hK _ _ (by rw [hdn]; exact ha) ?_
  have hcl : cur.toList.length = c * k := by simpa using hsz
  refine hw.setRow hi hg hmc hcm ?_ ?_ ?_
  · simp only [List.size_toArray, List.length_append, List.length_take, List.length_drop]; omega
  · rw [← hys, ← hcur]
    apply List.ext_getElem?
    intro j
    rw [List.getElem?_take]
    simp only [List.getElem?_append, List.length_append, List.length_take, List.getElem?_take, List.getElem?_drop]
    by_cases hj : j < m * k
    · simp only [hj, if_true]
      repeat' split
      all_goals (first | rfl | omega | (congr 1; omega) | skip)
    · simp only [hj, if_false]
      repeat' split
      all_goals (first | rfl | omega | skip)
  · rw [← hys]; simp only [List.length_append, List.length_take, List.length_drop]; omega⟩
end
end Go.Proofs.Ythbhjnmkbmmcnaa
