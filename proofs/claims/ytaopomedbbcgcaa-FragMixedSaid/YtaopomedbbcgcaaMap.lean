/- Maps of integers by integers, over symbolic states. Of whatever program. -/
import Derived.Test.YtaopomedbbcgcaaStr
import Derived.MapKept
namespace Go.Proofs.Ytaopomedbbcgcaa
open Go.RowKit Go.IntWalk
set_option linter.unusedVariables false
set_option linter.unusedSectionVars false

def mpE (kk vk : IntKind) : List (Int × Int) → Nat → List MapEntry
  | [], _ => []
  | p :: r, s => ⟨.int kk p.1, .int vk p.2, s⟩ :: mpE kk vk r (s + 1)
def mpO (kk vk : IntKind) (ps : List (Int × Int)) : Obj := .map (mpE kk vk ps 0).toArray ps.length
def mpF : List (Int × Int) → Int → Option Int
  | [], _ => none
  | p :: r, a => if a = p.1 then some p.2 else mpF r a
theorem mpE_len (kk vk : IntKind) : ∀ (ps : List (Int × Int)) (s : Nat), (mpE kk vk ps s).length = ps.length
  | [], _ => rfl
  | p :: r, s => by simp [mpE, mpE_len kk vk r (s + 1)]
theorem mpE_snoc (kk vk : IntKind) (q : Int × Int) : ∀ (ps : List (Int × Int)) (s : Nat), mpE kk vk (ps ++ [q]) s = mpE kk vk ps s ++ [⟨.int kk q.1, .int vk q.2, s + ps.length⟩]
  | [], s => by simp [mpE]
  | p :: r, s => by
    rw [List.cons_append, mpE, mpE, mpE_snoc kk vk q r (s + 1), List.cons_append, List.length_cons]
    congr 4
    omega
theorem mpF_snoc (q : Int × Int) (a : Int) : ∀ ps : List (Int × Int), mpF (ps ++ [q]) a = (mpF ps a).or (if a = q.1 then some q.2 else none)
  | [] => by simp [mpF]
  | p :: r => by
    rw [List.cons_append, mpF, mpF, mpF_snoc q a r]
    split <;> simp
theorem findNow_some (kk vk : IntKind) (a v : Int) : ∀ (ps : List (Int × Int)) (s i : Nat), mpF ps a = some v → ∃ j, Instr.findNow (.int kk) (.int kk a) (mpE kk vk ps s) i = some (some (j, .int vk v))
  | [], _, _, h => by simp [mpF] at h
  | p :: r, s, i, h => by
    simp only [mpF] at h
    by_cases e : a = p.1
    · rw [if_pos e] at h
      injection h with h
      subst h
      exact ⟨i, by simp [mpE, Instr.findNow, Instr.sameNow, e]⟩
    · rw [if_neg e] at h
      obtain ⟨j, hj⟩ := findNow_some kk vk a v r (s + 1) (i + 1) h
      exact ⟨j, by simp [mpE, Instr.findNow, Instr.sameNow, beqF e, hj]⟩
theorem findNow_none (kk vk : IntKind) (a : Int) : ∀ (ps : List (Int × Int)) (s i : Nat), mpF ps a = none → Instr.findNow (.int kk) (.int kk a) (mpE kk vk ps s) i = some none
  | [], _, _, h => rfl
  | p :: r, s, i, h => by
    simp only [mpF] at h
    by_cases e : a = p.1
    · rw [if_pos e] at h; cases h
    · rw [if_neg e] at h
      simp [mpE, Instr.findNow, Instr.sameNow, beqF e, findNow_none kk vk a r (s + 1) (i + 1) h]

section
variable {P : Program} {w0 : World} {D : Nat → Prop} {n : Nat} [Dfr] {τ : Tm} {H : List Item} {o : Oper} {K : Tm → List Item → Prop}
theorem Yld.lookI {T kt et b : Nat} {x y : Operand} {kk vk : IntKind} {a r : Int} {ps : List (Int × Int)} (i : Nat) (ho : o.op = .lookup T x y false) (hx : evl τ x = some (.map (some b))) (hy : evl τ y = some (.int kk a)) (hi : H[i]? = some (.obj b (mpO kk vk ps)))
    (hT : P.underlying T = some (.map kt et)) (hk : P.underlying kt = some (.int kk)) (hz : (P.info? et).bind (·.zero) = some (.int vk 0)) (hr : (mpF ps a).getD 0 = r) : Yld P w0 D n o τ H (.int vk r) := ⟨fun ac w hA hw => by
  have hb : w.heap[b]? = some (mpO kk vk ps) := hw.holds _ (List.mem_of_getElem? hi)
  have hzv : (zeroValue et).run P w = .ok (.int vk 0) w := by
    cases hh : P.info? et with
    | none => rw [hh] at hz; cases hz
    | some ii => rw [hh] at hz; simp only [Option.bind_some] at hz; simp [zeroValue, typeInfo, hh, hz]
  have hg := Go.MapKept.run_getObj_map (P := P) hb
  have hck : ∀ e, (Instr.checkKey e 10000 kt (.int kk a)).run P w = .ok () w := fun e => by
    unfold Instr.checkKey
    simp [run_underlying hk]
  simp only [execOp, ho, hA.ev hx, hA.ev hy]
  cases hf : mpF ps a with
  | none =>
    have := Go.MapKept.run_findKey (P := P) (w := w) (k := .int kk a) (l := mpE kk vk ps 0) hk (findNow_none kk vk a ps 0 0 hf)
    rw [hf] at hr
    simp only [Option.getD_none] at hr
    simp [Instr.lookup, run_underlying hT, hg, hck, this, hzv, hr]
  | some v =>
    obtain ⟨j, hj⟩ := findNow_some kk vk a v ps 0 0 hf
    have := Go.MapKept.run_findKey (P := P) (w := w) (k := .int kk a) (l := mpE kk vk ps 0) hk hj
    rw [hf] at hr
    simp only [Option.getD_some] at hr
    simp [Instr.lookup, run_underlying hT, hg, hck, this, hr]⟩
theorem StepTo.mkMap {T d : Nat} (kk vk : IntKind) (ho : o.op = .makeMap T none) (hdst : o.dst = some d) (hd : Nat.blt d n = true) (hK : ∀ b, K ((d, .map (some b)) :: τ) (.obj b (mpO kk vk []) :: H)) : StepTo P w0 D n o τ H K :=
  ⟨fun Kw Q hk a w ha hw => by
    have hr : (execOp a.eval o).run P w = .ok (.value (.map (some w.heap.size))) (w.alloc (.map #[] 0)) := by
      simp only [execOp, ho]
      rfl
    unfold Oper.wp
    rw [hr, Oper.upon_value, hdst]
    refine hk _ _ (hK w.heap.size) _ _ (ha.put (some d) _ hd) (hw.addNew (b := w.heap.size) ((Below.refl _ w).alloc (Nat.le_refl _) _) rfl ?_ fun c hc => ?_)
    · exact heap_alloc_new w _
    · simp only [Item.blk, Option.some.injEq] at hc
      exact hc.symm⟩
theorem StepTo.mapPut {T kt et b : Nat} {x y z : Operand} {kk vk : IntKind} {a v : Int} {ps : List (Int × Int)} {H2 : List Item} (i : Nat) (ho : o.op = .mapUpdate T x y z) (hdn : o.dst = none) (hx : evl τ x = some (.map (some b))) (hy : evl τ y = some (.int kk a)) (hz : evl τ z = some (.int vk v))
    (hi : H[i]? = some (.obj b (mpO kk vk ps))) (hT : P.underlying T = some (.map kt et)) (hk : P.underlying kt = some (.int kk)) (hf : mpF ps a = none) {qs : List (Int × Int)} (he : ps ++ [(a, v)] = qs) (hH : SetAt H i (.obj b (mpO kk vk qs)) H2) (hK : K τ H2) : StepTo P w0 D n o τ H K :=
  ⟨fun Kw Q hk' ac w ha hw => by
    subst he
    have hb : w.heap[b]? = some (mpO kk vk ps) := hw.holds _ (List.mem_of_getElem? hi)
    have hlt := (hw.holds _ (List.mem_of_getElem? hi)).lt (b := b) rfl
    have hg := Go.MapKept.run_getObj_map (P := P) hb
    have hck : ∀ e, (Instr.checkKey e 10000 kt (.int kk a)).run P w = .ok () w := fun e => by
      unfold Instr.checkKey
      simp [run_underlying hk]
    have hfk := Go.MapKept.run_findKey (P := P) (w := w) (k := .int kk a) (l := mpE kk vk ps 0) hk (findNow_none kk vk a ps 0 0 hf)
    have hs := fun o' => Go.MapKept.run_setObj_map (P := P) o' hb
    have hnew : Obj.map ((mpE kk vk ps 0).toArray.push ⟨.int kk a, .int vk v, ps.length⟩) (ps.length + 1) = mpO kk vk (ps ++ [(a, v)]) := by
      unfold mpO
      rw [mpE_snoc, List.length_append]
      simp
    have hr : (execOp ac.eval o).run P w = .ok .skip { w with heap := w.heap.setIfInBounds b (mpO kk vk (ps ++ [(a, v)])) } := by
      simp only [execOp, ho, ha.ev hx, ha.ev hy, ha.ev hz]
      rw [← hnew]
      simp [-List.push_toArray, Instr.mapUpdate, run_underlying hT, hg, hck, hfk, hs]
    unfold Oper.wp
    rw [hr]
    refine hk' _ _ hK _ _ (by rw [hdn]; exact ha) ?_
    rw [← hH.eq]
    refine hw.turn hi rfl (fun b' hb' => .inl hb') ?_ (fun b' hb' hne => ?_) (by simp) rfl rfl rfl
    · show (w.heap.setIfInBounds b _)[b]? = some _
      rw [Array.getElem?_setIfInBounds, if_pos rfl, if_pos hlt]
    · show (w.heap.setIfInBounds b _)[b']? = w.heap[b']?
      rw [Array.getElem?_setIfInBounds, if_neg (fun e => hne (by rw [← e]; rfl))]⟩
end
end Go.Proofs.Ytaopomedbbcgcaa
