/- slices.Insert of one number into a row of the call's own. -/
import Derived.Test.YthbhjnmkbmmcnaaGtB
import Derived.Lib.Overlaps
import Derived.Lib.AppendZerosOnto
namespace Go.Proofs.Ythbhjnmkbmmcnaa
open Go.RowKit Go.IntWalk
set_option linter.unusedVariables false
set_option linter.unusedSimpArgs false
set_option linter.unusedSectionVars false
set_option maxRecDepth 100000

section
variable {P : Program} {w0 : World} {D : Nat → Prop} {n : Nat} [Dfr] {Q : Exit → Act → World → Prop} {Kq : Act → World → Prop} {τ : Tm} {H : List Item} {ops : Array Oper} {o : Oper} {l : List Oper} {v v' : Value} {K : Tm → List Item → Prop}
/-- A row is a variable: its cells and those behind them. -/
theorem Sat.rowBox {w : World} (i : Nat) {g m c t k : Nat} {xs : List Value} (hw : Sat w0 D H w) (hi : H[i]? = some (.row (some ⟨g, 0, none⟩) m c t k xs)) : ∃ sp, sp.length = (c - m) * k ∧ m ≤ c ∧ c ≤ maxLen ∧ Sat w0 D (H.set i (.box g t (xs ++ sp))) w := by
  have h : w.ownsRow 0 t k (.slice (some ⟨g, 0, none⟩) m c) m xs := hw.holds _ (List.mem_of_getElem? hi)
  rcases h.2 with ⟨h0, _⟩ | ⟨g', cap, cur, hv, _, hg, h1, h2, h3, h4⟩
  · cases h0
  · simp only [Value.slice.injEq, Option.some.injEq, Addr.mk.injEq] at hv
    obtain ⟨⟨rfl, _⟩, _, rfl⟩ := hv
    refine ⟨cur.toList.drop (m * k), ?_, h1, h2, hw.same hi rfl ?_ fun b hb => hb⟩
    · rw [List.length_drop, Array.length_toList, h3, Nat.sub_mul]
    · show w.heap[g]? = some (.cells (xs ++ cur.toList.drop (m * k)).toArray t (0, 0))
      rw [← h4, List.take_append_drop, Array.toArray_toList]
      exact hg
theorem WL.rowBox (i : Nat) {g m c t k : Nat} {xs : List Value} (hi : H[i]? = some (.row (some ⟨g, 0, none⟩) m c t k xs)) (h : ∀ sp, sp.length = (c - m) * k → m ≤ c → c ≤ maxLen → WL P w0 D n ops Q l τ (H.set i (.box g t (xs ++ sp)))) : WL P w0 D n ops Q l τ H :=
  ⟨fun a w ha hw => by obtain ⟨sp, h1, h2, h3, h4⟩ := hw.rowBox i hi; exact (h sp h1 h2 h3).go a w ha h4⟩
theorem WC.rowBox {x : Code} (i : Nat) {g m c t k : Nat} {xs : List Value} (hi : H[i]? = some (.row (some ⟨g, 0, none⟩) m c t k xs)) (h : ∀ sp, sp.length = (c - m) * k → m ≤ c → c ≤ maxLen → WC P w0 D n x Q τ (H.set i (.box g t (xs ++ sp)))) : WC P w0 D n x Q τ H :=
  ⟨fun a w ha hw => by obtain ⟨sp, h1, h2, h3, h4⟩ := hw.rowBox i hi; exact (h sp h1 h2 h3).go a w ha h4⟩
/-- A variable is a row: some cells and those behind them. -/
theorem Sat.boxRowC {w : World} (i m c k : Nat) {g t : Nat} {xs sp : List Value} (hw : Sat w0 D H w) (hi : H[i]? = some (.box g t (xs ++ sp))) (hx : xs.length = m * k) (hs : sp.length = (c - m) * k) (hm : m ≤ c) (hc : c ≤ maxLen) : Sat w0 D (H.set i (.row (some ⟨g, 0, none⟩) m c t k xs)) w := by
  have h : w.heap[g]? = some (.cells (xs ++ sp).toArray t (0, 0)) := hw.holds _ (List.mem_of_getElem? hi)
  refine hw.same hi rfl ⟨hx, .inr ⟨g, c, (xs ++ sp).toArray, rfl, Nat.zero_le _, h, hm, hc, ?_, ?_⟩⟩ fun b hb => hb
  · rw [List.size_toArray, List.length_append, hx, hs, ← Nat.add_mul]
    congr 1
    omega
  · rw [List.toList_toArray, ← hx, List.take_left]
theorem WQ.boxRowC (i m c k : Nat) {g t : Nat} {xs sp : List Value} (hi : H[i]? = some (.box g t (xs ++ sp))) (hx : xs.length = m * k) (hs : sp.length = (c - m) * k) (hm : m ≤ c) (hc : c ≤ maxLen) (h : WQ w0 D n Kq τ (H.set i (.row (some ⟨g, 0, none⟩) m c t k xs))) : WQ w0 D n Kq τ H :=
  ⟨fun a w ha hw => h.go a w ha (hw.boxRowC i m c k hi hx hs hm hc)⟩
theorem CellsAt.boxP (i : Nat) {b t o' : Nat} {cs vs : List Value} (hi : H[i]? = some (.box b t cs)) (hp : PartAt cs o' vs) : CellsAt w0 D H b o' vs := fun w hw j u hu => by
  have h := hw.holds _ (List.mem_of_getElem? hi)
  rw [cell_of_row w b _ cs.toArray t (0, 0) h]
  simpa using hp j u hu
theorem CellsAt.rowQ (i : Nat) {b m c t k o' : Nat} {xs vs : List Value} (hi : H[i]? = some (.row (some ⟨b, 0, none⟩) m c t k xs)) (hp : PartAt xs o' vs) : CellsAt w0 D H b o' vs := fun w hw j u hu =>
  CellAt.row i hi (hp j u hu) w hw
/-- The room of a slice. -/
theorem Yld.cap {x : Operand} {t e : TypeId} {A : Option Addr} {len cap : Nat} (ho : o.op = .call { callee := .builtin .cap, args := #[x], argTypes := #[t] }) (hx : evl τ x = some (.slice A len cap)) (ht : P.underlying t = some (.slice e)) :
    Yld P w0 D n o τ H (.int .i64 cap) := ⟨fun a w h hw => by
  simp [execOp, ho, resolve, invoke, builtin, h.ev hx, Builtin.cap_, run_underlying ht, goInt]⟩
/-- A call of a function that the model has of its own. -/
theorem Yld.outerS {v : Value} {F : Operand} {args : Array Operand} {tys : Array TypeId} {vs us : List Value} {f : FuncId} (ho : o.op = .call { callee := .value F, args := args, argTypes := tys }) (ha : evls τ args.toList = some vs) (hF : funV vs (evl τ F) = some (f, us))
    (h : ∀ w, Sat w0 D H w → (callFunc f us.toArray).run P w = .ok (.value v) w) : Yld P w0 D n o τ H v := ⟨fun a w hA hw => by
  obtain ⟨first, captured, hfv, rfl⟩ := funV_some hF
  have hm : args.map a.eval = vs.toArray := by
    rw [← evls_eq hA _ _ ha]; exact Array.ext' (by simp)
  have he := hA.ev hfv
  have hh := h w hw
  have e5 : (first.toList ++ vs ++ captured.toList).toArray = first ++ (vs.toArray ++ captured) := by simp
  rw [e5] at hh
  simp only [execOp, ho, resolve, he, hm, Deferred.ofValue, invoke]
  simp [hh]⟩
/-- 'append' of cells that are nought, where there is no room. -/
theorem StepTo.appendZ {x s : Operand} {t tn e m c h q by_ d g : Nat} {z : Value} {xs : List Value} {p : Int} (i : Nat) (ho : o.op = .call { callee := .builtin .append, args := #[s, x], argTypes := #[t, tn] }) (hdst : o.dst = some d) (hd : Nat.blt d n = true)
    (hs : evl τ s = some (.slice (some ⟨g, 0, none⟩) h c)) (hi : H[i]? = some (.row (some ⟨g, 0, none⟩) m c e 1 xs)) (hx : evl τ x = some (.int .i64 p)) (ht : P.underlying t = some (.slice e)) (htn : P.underlying tn = some (.int .i64))
    (hI : (P.info? e).map (fun i => (i.size, i.bytes, i.zero)) = some (1, by_, some z)) (hzc : z.cells = #[z]) (hp : p = (q : Nat)) (hle : h ≤ m) (hq : 0 < q) (hg : c < h + q) (hm : h + q ≤ 549755813888) (hby : by_ ≤ 256)
    (hK : ∀ b c', K ((d, .slice (some ⟨b, 0, none⟩) (h + q) c') :: τ) (.row (some ⟨b, 0, none⟩) (h + q) c' e 1 (xs.take h ++ List.replicate q z) :: H)) : StepTo P w0 D n o τ H K :=
  ⟨fun Kw Q hk' a w ha hw => by
    subst hp
    obtain ⟨ti, hti, hsz, hbz, hzz⟩ : ∃ ti, P.info? e = some ti ∧ ti.size = 1 ∧ ti.bytes = by_ ∧ ti.zero = some z := by
      cases hh : P.info? e with
      | none => rw [hh] at hI; cases hI
      | some ti =>
        rw [hh] at hI
        simp only [Option.map_some, Option.some.injEq, Prod.mk.injEq] at hI
        exact ⟨ti, rfl, hI.1, hI.2.1, hI.2.2⟩
    have hrow : w.ownsRow 0 e 1 (.slice (some ⟨g, 0, none⟩) m c) m xs := hw.holds _ (List.mem_of_getElem? hi)
    have hxl : xs.length = m := by have := hrow.1; omega
    have hold : (Builtin.firstCells ti.size h (.slice (some ⟨g, 0, none⟩) h c)).run P w.drew = .ok (xs.take h).toArray w.drew := by
      rw [hsz]
      exact run_firstCells_some w.drew 1 h ⟨g, 0, none⟩ h c (xs.take h) (by rw [List.length_take]; omega) (fun j u hj => by
        rw [List.getElem?_take] at hj
        split at hj
        · exact hrow.cells (g := g) rfl j u hj
        · cases hj)
    have hb1 : (h + q) * by_ ≤ 140737488355328 := by
      have := Nat.mul_le_mul hm hby
      omega
    have hqb : q * by_ ≤ (h + q) * by_ := Nat.mul_le_mul_right _ (by omega)
    have hr := Lib.run_append_grow_zeros (P := P) w t tn o.type e ti z .i64 .i64 ht htn hti hzz (some ⟨g, 0, none⟩) h c (xs.take h) hold q hq (by omega) hg (by omega) (by rw [hbz]; omega) (by rw [hbz]; exact growslice_fits hg hb1)
    have hrun : (execOp a.eval o).run P w = .ok (.value (.slice (some ⟨w.heap.size, 0, none⟩) (h + q) (grownCap w (h + q) c e))) (w.drew.alloc (.cells ((xs.take h).toArray ++ Builtin.zeroCells z.cells q ++ Builtin.zeroCells z.cells (grownCap w (h + q) c e - (h + q))) e)) := by
      simp only [execOp, ho, resolve, invoke, builtin]
      simp [ha.ev hs, ha.ev hx, hr]
    unfold Oper.wp
    rw [hrun, Oper.upon_value, hdst]
    have hz1 : ∀ k, (Builtin.zeroCells z.cells k).toList = List.replicate k z := fun k => by
      apply List.ext_getElem?
      intro j
      by_cases hj : j < k
      · simp [Builtin.zeroCells, hzc, List.getElem?_replicate, List.getElem?_range, hj, Nat.mod_one]
      · simp [Builtin.zeroCells, hzc, List.getElem?_replicate, List.getElem?_eq_none, hj]
    have hcells : (xs.take h).toArray ++ Builtin.zeroCells z.cells q ++ Builtin.zeroCells z.cells (grownCap w (h + q) c e - (h + q)) = ((xs.take h ++ List.replicate q z) ++ List.replicate (grownCap w (h + q) c e - (h + q)) z).toArray := by
      apply Array.ext'
      simp [hz1]
    rw [hcells]
    refine hk' _ _ (hK w.heap.size (grownCap w (h + q) c e)) _ _ (ha.put (some d) _ hd) ?_
    have hA := hw.drew.alloc e ((xs.take h ++ List.replicate q z) ++ List.replicate (grownCap w (h + q) c e - (h + q)) z)
    exact hA.boxRowC 0 (h + q) (grownCap w (h + q) c e) 1 rfl (by rw [List.length_append, List.length_take, List.length_replicate]; omega) (by rw [List.length_replicate, Nat.mul_one]) (grownCap_ge _ _ _ _) (grownCap_le_maxLen _ _ _ _ (by simp only [maxLen]; omega))⟩
end
theorem cutA_in {g c lo k : Nat} (h : c ≠ lo) : cutA (some ⟨g, 0, none⟩) c lo k = some ⟨g, lo * k, none⟩ := by
  unfold cutA
  rw [if_neg h]
  simp [Addr.add]
  exact fun h => h.symm
/-- Two slices in two blocks do not overlap. -/
theorem overlaps_run {g gv off lb cb : Nat} {x : Int} {cs : List Value} {w0 w : World} {D : Nat → Prop} {H : List Item} (hw : Sat w0 D H w) (i j : Nat) (hi : H[i]? = some (.box g 22 cs)) (hj : H[j]? = some (.box gv 22 [.int .u32 x])) (hne : g ≠ gv) (hc : cs ≠ []) :
    (callFunc 41 #[.slice (some ⟨gv, 0, none⟩) 1 1, .slice (some ⟨g, off, none⟩) lb cb]).run Try.prog w = .ok (.value (.bool false)) w := by
  have h1 : w.heap[g]? = some (.cells cs.toArray 22 (0, 0)) := hw.holds _ (List.mem_of_getElem? hi)
  have h2 : w.heap[gv]? = some (.cells [Value.int .u32 x].toArray 22 (0, 0)) := hw.holds _ (List.mem_of_getElem? hj)
  rw [run_callFunc_extern Try.func41 (by kernel_rfl) (by kernel_rfl) (by kernel_rfl) (e := Extern.SlicesOverlaps.overlaps #[23, 23] #[4]) (by kernel_rfl),
    Lib.run_overlaps_apart w 23 4 22 Try.underlying23 1 Try.sizeOf22 ⟨gv, 0, none⟩ ⟨g, off, none⟩ 1 1 lb cb (fun e => hne e.symm) 22 22 1 cs.length
      (by simp [World.shape?, h2]) (by simp [World.shape?, h1]) (by simpa using hc) (by simp [World.frozen?, h2]) (by simp [World.frozen?, h2])]
  rfl
theorem ic_cut (k : IntKind) (xs : List Int) (i : Nat) : flat (ic k) (xs.drop i) = (flat (ic k) xs).drop i := by
  have := flat_drop (ic_len k) xs i
  rw [Nat.mul_one] at this
  exact this
theorem ic_tk (k : IntKind) (xs : List Int) (i : Nat) : flat (ic k) (xs.take i) = (flat (ic k) xs).take i := by
  have := flat_take (ic_len k) xs i
  rw [Nat.mul_one] at this
  exact this
theorem ic_ln (k : IntKind) (xs : List Int) : (flat (ic k) xs).length = xs.length := by rw [flat_len (ic_len k), Nat.mul_one]
/-- The cells of the row, pushed up by one from i on. -/
theorem ins_cells {cs sp : List Value} {i n : Nat} {x : Value} (hl : cs.length = n) (hi : i < n) (hs : 0 < sp.length) : over (over (cs ++ sp) (i + 1) (cs.drop i)) i [x] = (cs.take i ++ x :: cs.drop i) ++ sp.drop 1 := by
  have hd : (cs.drop i).length = n - i := by rw [List.length_drop, hl]
  rw [over_eq (cs ++ sp) (i + 1) (cs.drop i) (by rw [List.length_append, hd]; omega), hd, over_eq _ i [x] (by simp; omega)]
  have h1 : (cs ++ sp).drop (i + 1 + (n - i)) = sp.drop 1 := by
    rw [List.drop_append, List.drop_of_length_le (by omega), List.nil_append]
    congr 1
    omega
  have h2 : (cs ++ sp).take (i + 1) = cs.take (i + 1) := by rw [List.take_append_of_le_length (by omega)]
  rw [h1, h2]
  have h3 : (cs.take (i + 1) ++ cs.drop i ++ sp.drop 1).take i = cs.take i := by
    rw [List.append_assoc, List.take_append_of_le_length (by rw [List.length_take]; omega), List.take_take, Nat.min_eq_left (by omega)]
  have h4 : (cs.take (i + 1) ++ cs.drop i ++ sp.drop 1).drop (i + [x].length) = cs.drop i ++ sp.drop 1 := by
    rw [List.append_assoc, List.drop_append, List.drop_of_length_le (by rw [List.length_take]; simp; omega), List.nil_append, List.length_take]
    rw [show i + [x].length - min (i + 1) cs.length = 0 by simp; omega, List.drop_zero]
  rw [h3, h4]
  simp
/-- The same, in a new row. -/
theorem ins_cells2 {cs sp : List Value} {i n : Nat} {x z : Value} (hl : cs.length = n) (hi : i < n) : over (over ((cs.take i ++ List.replicate (n + 1 - i) z) ++ sp) i [x]) (i + 1) (cs.drop i) = (cs.take i ++ x :: cs.drop i) ++ sp := by
  have hd : (cs.drop i).length = n - i := by rw [List.length_drop, hl]
  obtain ⟨r, hr⟩ : ∃ r, n + 1 - i = r + 1 := ⟨n - i, by omega⟩
  have htl : (cs.take i).length = i := by rw [List.length_take]; omega
  rw [hr, over_eq _ i [x] (by simp; omega)]
  have h1 : ((cs.take i ++ List.replicate (r + 1) z) ++ sp).take i = cs.take i := by rw [List.append_assoc, List.take_append_of_le_length (by omega), List.take_of_length_le (by omega)]
  have h2 : ((cs.take i ++ List.replicate (r + 1) z) ++ sp).drop (i + [x].length) = List.replicate r z ++ sp := by
    rw [List.append_assoc, List.drop_append, List.drop_of_length_le (by simp; omega), List.nil_append, htl, show i + [x].length - i = 1 by simp, List.replicate_succ]
    rfl
  rw [h1, h2, over_eq _ (i + 1) (cs.drop i) (by simp; omega), hd]
  have h3 : (cs.take i ++ [x] ++ (List.replicate r z ++ sp)).take (i + 1) = cs.take i ++ [x] := by rw [List.take_append_of_le_length (by simp; omega), List.take_of_length_le (by simp; omega)]
  have h4 : (cs.take i ++ [x] ++ (List.replicate r z ++ sp)).drop (i + 1 + (n - i)) = sp := by
    rw [List.drop_append, List.drop_of_length_le (by simp; omega), List.nil_append, List.drop_append, List.drop_of_length_le (by simp; omega), List.nil_append]
    rw [show i + 1 + (n - i) - (cs.take i ++ [x]).length - (List.replicate r z).length = 0 by simp [htl]; omega, List.drop_zero]
  rw [h3, h4]
  simp
set_option maxHeartbeats 8000000 in
theorem insert_w (A : Option Addr) (n c i gv : Nat) (xs : List Int) (x : Int) (w : World) (hS : Sat w (Bs [.row A n c 22 1 (flat (ic .u32) xs), .box gv 22 [.int .u32 x]]) [.row A n c 22 1 (flat (ic .u32) xs), .box gv 22 [.int .u32 x]] w) (hl : xs.length = n) (hn : n ≤ 1000000) (hi : i ≤ n) :
    Calls Try.prog 32 #[.slice A n c, .int .i64 (i : Nat), .slice (some ⟨gv, 0, none⟩) 1 1] w
      fun e w' => ∃ v N, e = .returned v ∧ (∃ A' c', v = .slice A' (n + 1) c' ∧ N = [.row A' (n + 1) c' 22 1 (flat (ic .u32) (xs.take i ++ x :: xs.drop i))]) ∧ Mod (Bs [.row A n c 22 1 (flat (ic .u32) xs), .box gv 22 [.int .u32 x]]) N w w' := by
  have hne : ∀ g, A = some ⟨g, 0, none⟩ → g ≠ gv := fun g hg e => by
    subst hg e
    exact (hS.pair (i := 0) (j := 1) rfl rfl (by decide)).ne rfl g rfl rfl
  refine enterM _ _ hS Try.func32 rfl (by simp only [Try.ntmps32, List.length_cons, List.length_nil, Nat.reduceAdd, Nat.reduceSub]; rfl) ?_
  by_cases hin : i = n
  · subst hin
    have hadd : flat (ic .u32) xs ++ [.int .u32 x] = flat (ic .u32) (xs.take i ++ x :: xs.drop i) := by
      rw [List.take_of_length_le (by omega), List.drop_of_length_le (by omega), flat_append]; rfl
    repeat' (first
    | refine goS ?_
    | ((with_reducible refine WL.isN_bin ?_); first | refine WL.yld rfl binQ ?_)
    | ((with_reducible refine WL.isN_call ?_); first | refine WL.step rfl (StepTo.appendTo 0 (flat (ic .u32) (xs.take i ++ x :: xs.drop i)) rfl rfl rfl rfl rfl rfl rfl rfl rfl rfl rfl rfl (CellsAt.boxAll 1 rfl) rfl rfl (by omega) hadd (fun _ _ => ⟨_, setQ, ?_⟩)) | refine WL.yld rfl lenQ ?_ | refine WL.step rfl (StepTo.append 0 rfl rfl rfl rfl rfl rfl rfl rfl rfl rfl rfl rfl (by first | exact CellsAt.boxAll 0 rfl | exact CellsAt.boxAll 1 rfl | exact CellsAt.boxAll 2 rfl | exact CellsAt.boxAll 3 rfl | exact CellsAt.boxAll 4 rfl) rfl rfl (by omega) (fun _ _ => ⟨_, setQ, ?_⟩)) | refine WL.step rfl (StepTo.append 1 rfl rfl rfl rfl rfl rfl rfl rfl rfl rfl rfl rfl (by first | exact CellsAt.boxAll 0 rfl | exact CellsAt.boxAll 1 rfl | exact CellsAt.boxAll 2 rfl | exact CellsAt.boxAll 3 rfl | exact CellsAt.boxAll 4 rfl) rfl rfl (by omega) (fun _ _ => ⟨_, setQ, ?_⟩)) | refine WL.step rfl (StepTo.append 2 rfl rfl rfl rfl rfl rfl rfl rfl rfl rfl rfl rfl (by first | exact CellsAt.boxAll 0 rfl | exact CellsAt.boxAll 1 rfl | exact CellsAt.boxAll 2 rfl | exact CellsAt.boxAll 3 rfl | exact CellsAt.boxAll 4 rfl) rfl rfl (by omega) (fun _ _ => ⟨_, setQ, ?_⟩)) | refine WL.step rfl (StepTo.append 3 rfl rfl rfl rfl rfl rfl rfl rfl rfl rfl rfl rfl (by first | exact CellsAt.boxAll 0 rfl | exact CellsAt.boxAll 1 rfl | exact CellsAt.boxAll 2 rfl | exact CellsAt.boxAll 3 rfl | exact CellsAt.boxAll 4 rfl) rfl rfl (by omega) (fun _ _ => ⟨_, setQ, ?_⟩)) | refine WL.step rfl (StepTo.append 4 rfl rfl rfl rfl rfl rfl rfl rfl rfl rfl rfl rfl (by first | exact CellsAt.boxAll 0 rfl | exact CellsAt.boxAll 1 rfl | exact CellsAt.boxAll 2 rfl | exact CellsAt.boxAll 3 rfl | exact CellsAt.boxAll 4 rfl) rfl rfl (by omega) (fun _ _ => ⟨_, setQ, ?_⟩)) | refine WL.step rfl (StepTo.append 5 rfl rfl rfl rfl rfl rfl rfl rfl rfl rfl rfl rfl (by first | exact CellsAt.boxAll 0 rfl | exact CellsAt.boxAll 1 rfl | exact CellsAt.boxAll 2 rfl | exact CellsAt.boxAll 3 rfl | exact CellsAt.boxAll 4 rfl) rfl rfl (by omega) (fun _ _ => ⟨_, setQ, ?_⟩)) | refine WL.step rfl (StepTo.append 6 rfl rfl rfl rfl rfl rfl rfl rfl rfl rfl rfl rfl (by first | exact CellsAt.boxAll 0 rfl | exact CellsAt.boxAll 1 rfl | exact CellsAt.boxAll 2 rfl | exact CellsAt.boxAll 3 rfl | exact CellsAt.boxAll 4 rfl) rfl rfl (by omega) (fun _ _ => ⟨_, setQ, ?_⟩)))
    | refine WL.yld rfl (Yld.sliceLo (lo := i) rfl rfl rfl rfl rfl rfl (by omega)) ?_
    | with_reducible refine WC.block ?_
    | (refine WC.cond rfl (fun hc => ?_) (fun hc => ?_) <;> (try first | (with_reducible replace hc := of_decide_eq_true hc) | (with_reducible replace hc := of_decide_eq_false hc) | (with_reducible replace hc := eqT hc) | (with_reducible replace hc := eqF hc) | (with_reducible replace hc := neT hc) | (with_reducible replace hc := neF hc) | (with_reducible replace hc := noT hc) | (with_reducible replace hc := noF hc)) <;> (try (exfalso; omega))))
    exact WQ.body (Reads.tmp rfl rfl) fun w' hw' => ⟨_, _, rfl, ⟨_, _, rfl, rfl⟩, (hw'.pick (idx := [0]) ⟨by decide, rfl⟩).toMod (by simp [Item.mine])⟩
  refine WC.rowAt 0 rfl (by omega) fun g hg => ?_
  subst hg
  have hgv := hne g rfl
  clear hne
  refine WC.capRow 0 rfl fun capR => ?_
  have hcl : (flat (ic .u32) xs).length = n := by rw [ic_ln, hl]
  have hdl : ((flat (ic .u32) xs).drop i).length = n - i := by rw [List.length_drop, hcl]
  have hd1 : ∀ u ∈ (flat (ic .u32) xs).drop i, u.oneCell' = true := fun u hu => flat_one (ic_one .u32) xs u (List.mem_of_mem_drop hu)
  have hx1 : ∀ u ∈ [Value.int .u32 x], u.oneCell' = true := fun u hu => by rw [List.mem_singleton.1 hu]; rfl
  have hfin : flat (ic .u32) (xs.take i ++ x :: xs.drop i) = (flat (ic .u32) xs).take i ++ Value.int .u32 x :: (flat (ic .u32) xs).drop i := by
    rw [flat_append, flat_cons, ic_tk, ic_cut]; rfl
  have hln : (flat (ic .u32) (xs.take i ++ x :: xs.drop i)).length = (n + 1) * 1 := by rw [ic_ln, List.length_append, List.length_cons, List.length_take, List.length_drop]; omega
  have hpt : ∀ sp : List Value, PartAt (flat (ic .u32) xs ++ sp) i ((flat (ic .u32) xs).drop i) := fun sp j u hu => by
    have hj := (List.getElem?_eq_some_iff.1 hu).1
    rw [List.getElem?_drop] at hu
    rw [List.getElem?_append_left (by omega)]
    exact hu
  have hpt0 : PartAt (flat (ic .u32) xs) i ((flat (ic .u32) xs).drop i) := fun j u hu => by rw [List.getElem?_drop] at hu; exact hu
  have hne0 : ∀ sp : List Value, flat (ic .u32) xs ++ sp ≠ [] := fun sp e => by
    have := congrArg List.length e
    rw [List.length_append, hcl] at this
    simp at this
    omega
  by_cases hroom : n + 1 ≤ c
  · repeat' (first
    | refine goS ?_
    | ((with_reducible refine WL.isN_bin ?_); first | refine WL.yld rfl binQ ?_)
    | ((with_reducible refine WL.isN_call ?_); first | refine WL.yld rfl (Yld.cap rfl rfl rfl) ?_ | refine WL.yld rfl lenQ ?_ | refine WL.step rfl (StepTo.append 0 rfl rfl rfl rfl rfl rfl rfl rfl rfl rfl rfl rfl (by first | exact CellsAt.boxAll 0 rfl | exact CellsAt.boxAll 1 rfl | exact CellsAt.boxAll 2 rfl | exact CellsAt.boxAll 3 rfl | exact CellsAt.boxAll 4 rfl) rfl rfl (by omega) (fun _ _ => ⟨_, setQ, ?_⟩)) | refine WL.step rfl (StepTo.append 1 rfl rfl rfl rfl rfl rfl rfl rfl rfl rfl rfl rfl (by first | exact CellsAt.boxAll 0 rfl | exact CellsAt.boxAll 1 rfl | exact CellsAt.boxAll 2 rfl | exact CellsAt.boxAll 3 rfl | exact CellsAt.boxAll 4 rfl) rfl rfl (by omega) (fun _ _ => ⟨_, setQ, ?_⟩)) | refine WL.step rfl (StepTo.append 2 rfl rfl rfl rfl rfl rfl rfl rfl rfl rfl rfl rfl (by first | exact CellsAt.boxAll 0 rfl | exact CellsAt.boxAll 1 rfl | exact CellsAt.boxAll 2 rfl | exact CellsAt.boxAll 3 rfl | exact CellsAt.boxAll 4 rfl) rfl rfl (by omega) (fun _ _ => ⟨_, setQ, ?_⟩)) | refine WL.step rfl (StepTo.append 3 rfl rfl rfl rfl rfl rfl rfl rfl rfl rfl rfl rfl (by first | exact CellsAt.boxAll 0 rfl | exact CellsAt.boxAll 1 rfl | exact CellsAt.boxAll 2 rfl | exact CellsAt.boxAll 3 rfl | exact CellsAt.boxAll 4 rfl) rfl rfl (by omega) (fun _ _ => ⟨_, setQ, ?_⟩)) | refine WL.step rfl (StepTo.append 4 rfl rfl rfl rfl rfl rfl rfl rfl rfl rfl rfl rfl (by first | exact CellsAt.boxAll 0 rfl | exact CellsAt.boxAll 1 rfl | exact CellsAt.boxAll 2 rfl | exact CellsAt.boxAll 3 rfl | exact CellsAt.boxAll 4 rfl) rfl rfl (by omega) (fun _ _ => ⟨_, setQ, ?_⟩)) | refine WL.step rfl (StepTo.append 5 rfl rfl rfl rfl rfl rfl rfl rfl rfl rfl rfl rfl (by first | exact CellsAt.boxAll 0 rfl | exact CellsAt.boxAll 1 rfl | exact CellsAt.boxAll 2 rfl | exact CellsAt.boxAll 3 rfl | exact CellsAt.boxAll 4 rfl) rfl rfl (by omega) (fun _ _ => ⟨_, setQ, ?_⟩)) | refine WL.step rfl (StepTo.append 6 rfl rfl rfl rfl rfl rfl rfl rfl rfl rfl rfl rfl (by first | exact CellsAt.boxAll 0 rfl | exact CellsAt.boxAll 1 rfl | exact CellsAt.boxAll 2 rfl | exact CellsAt.boxAll 3 rfl | exact CellsAt.boxAll 4 rfl) rfl rfl (by omega) (fun _ _ => ⟨_, setQ, ?_⟩)))
    | refine WL.yld rfl (Yld.sliceLo (lo := i) rfl rfl rfl rfl rfl rfl (by omega)) ?_
    | (refine WC.cond rfl (fun hc => ?_) (fun hc => ?_) <;> (try first | (with_reducible replace hc := of_decide_eq_true hc) | (with_reducible replace hc := of_decide_eq_false hc) | (with_reducible replace hc := eqT hc) | (with_reducible replace hc := eqF hc) | (with_reducible replace hc := neT hc) | (with_reducible replace hc := neF hc) | (with_reducible replace hc := noT hc) | (with_reducible replace hc := noF hc)) <;> (try (exfalso; omega))))
    refine WL.rowBox 0 rfl fun sp hsp hnc hcm => ?_
    have hc1 : Value.slice (cutA (some ⟨g, 0, none⟩) c (i + 1) 1) (n + 1 - (i + 1)) (c - (i + 1)) = .slice (some ⟨g, i + 1, none⟩) (n + 1 - (i + 1)) (c - (i + 1)) := by rw [cutA_in (by omega), Nat.mul_one]
    have hc0 : Value.slice (cutA (some ⟨g, 0, none⟩) c i 1) (n + 1 - i) (c - i) = .slice (some ⟨g, i, none⟩) (n + 1 - i) (c - i) := by rw [cutA_in (by omega), Nat.mul_one]
    repeat' (first
    | refine goS ?_
    | ((with_reducible refine WL.isN_bin ?_); first | refine WL.yld rfl binQ ?_)
    | ((with_reducible refine WL.isN_call ?_); first | refine WL.yld rfl (Yld.outerS rfl rfl rfl (fun w hw => overlaps_run hw 0 1 rfl rfl hgv (hne0 sp))) ?_ | refine WL.yld rfl lenQ ?_ | refine WL.step rfl (StepTo.append 0 rfl rfl rfl rfl rfl rfl rfl rfl rfl rfl rfl rfl (by first | exact CellsAt.boxAll 0 rfl | exact CellsAt.boxAll 1 rfl | exact CellsAt.boxAll 2 rfl | exact CellsAt.boxAll 3 rfl | exact CellsAt.boxAll 4 rfl) rfl rfl (by omega) (fun _ _ => ⟨_, setQ, ?_⟩)) | refine WL.step rfl (StepTo.append 1 rfl rfl rfl rfl rfl rfl rfl rfl rfl rfl rfl rfl (by first | exact CellsAt.boxAll 0 rfl | exact CellsAt.boxAll 1 rfl | exact CellsAt.boxAll 2 rfl | exact CellsAt.boxAll 3 rfl | exact CellsAt.boxAll 4 rfl) rfl rfl (by omega) (fun _ _ => ⟨_, setQ, ?_⟩)) | refine WL.step rfl (StepTo.append 2 rfl rfl rfl rfl rfl rfl rfl rfl rfl rfl rfl rfl (by first | exact CellsAt.boxAll 0 rfl | exact CellsAt.boxAll 1 rfl | exact CellsAt.boxAll 2 rfl | exact CellsAt.boxAll 3 rfl | exact CellsAt.boxAll 4 rfl) rfl rfl (by omega) (fun _ _ => ⟨_, setQ, ?_⟩)) | refine WL.step rfl (StepTo.append 3 rfl rfl rfl rfl rfl rfl rfl rfl rfl rfl rfl rfl (by first | exact CellsAt.boxAll 0 rfl | exact CellsAt.boxAll 1 rfl | exact CellsAt.boxAll 2 rfl | exact CellsAt.boxAll 3 rfl | exact CellsAt.boxAll 4 rfl) rfl rfl (by omega) (fun _ _ => ⟨_, setQ, ?_⟩)) | refine WL.step rfl (StepTo.append 4 rfl rfl rfl rfl rfl rfl rfl rfl rfl rfl rfl rfl (by first | exact CellsAt.boxAll 0 rfl | exact CellsAt.boxAll 1 rfl | exact CellsAt.boxAll 2 rfl | exact CellsAt.boxAll 3 rfl | exact CellsAt.boxAll 4 rfl) rfl rfl (by omega) (fun _ _ => ⟨_, setQ, ?_⟩)) | refine WL.step rfl (StepTo.append 5 rfl rfl rfl rfl rfl rfl rfl rfl rfl rfl rfl rfl (by first | exact CellsAt.boxAll 0 rfl | exact CellsAt.boxAll 1 rfl | exact CellsAt.boxAll 2 rfl | exact CellsAt.boxAll 3 rfl | exact CellsAt.boxAll 4 rfl) rfl rfl (by omega) (fun _ _ => ⟨_, setQ, ?_⟩)) | refine WL.step rfl (StepTo.append 6 rfl rfl rfl rfl rfl rfl rfl rfl rfl rfl rfl rfl (by first | exact CellsAt.boxAll 0 rfl | exact CellsAt.boxAll 1 rfl | exact CellsAt.boxAll 2 rfl | exact CellsAt.boxAll 3 rfl | exact CellsAt.boxAll 4 rfl) rfl rfl (by omega) (fun _ _ => ⟨_, setQ, ?_⟩)))
    | refine WL.yld rfl (Yld.sliceHi (h := n + 1) rfl rfl rfl rfl rfl (by omega) (by omega)) ?_
    | refine WL.yld rfl (Yld.as (Yld.sliceLo (lo := i + 1) rfl rfl rfl rfl rfl (by omega) (by omega)) hc1) ?_
    | (refine WC.cond rfl (fun hc => ?_) (fun hc => ?_) <;> (try first | (with_reducible replace hc := of_decide_eq_true hc) | (with_reducible replace hc := of_decide_eq_false hc) | (with_reducible replace hc := eqT hc) | (with_reducible replace hc := eqF hc) | (with_reducible replace hc := neT hc) | (with_reducible replace hc := neF hc) | (with_reducible replace hc := noT hc) | (with_reducible replace hc := noF hc)) <;> (try (exfalso; omega))))
    refine WC.tail 8 (by kernel_rfl) (by kernel_rfl) ?_
    simp only [List.take_succ_cons, List.take_zero, List.drop_succ_cons, List.drop_zero]
    repeat (first | refine WT.yld rfl (Yld.as (Yld.sliceLo (lo := i + 1) rfl rfl rfl rfl rfl (by omega) (by omega)) hc1) ?_ | refine WT.yld rfl (Yld.as (Yld.sliceLo (lo := i) rfl rfl rfl rfl rfl rfl (by omega)) hc0) ?_ | refine WT.yld rfl (Yld.pure rfl nrmQ) ?_)
    refine WT.nil ?_
    refine WL.step rfl (StepTo.copyBox (vs := (flat (ic .u32) xs).drop i) 0 rfl rfl rfl rfl rfl rfl rfl rfl (CellsAt.boxP 0 rfl (hpt sp)) (by rw [hdl]; show _ = min _ _; omega) (by rw [hdl, List.length_append, hcl]; omega) hd1 rfl setQ ?_)
    repeat' (first
    | refine goS ?_
    | ((with_reducible refine WL.isN_bin ?_); first | refine WL.yld rfl binQ ?_)
    | ((with_reducible refine WL.isN_call ?_); first | refine WL.yld rfl lenQ ?_ | refine WL.step rfl (StepTo.append 0 rfl rfl rfl rfl rfl rfl rfl rfl rfl rfl rfl rfl (by first | exact CellsAt.boxAll 0 rfl | exact CellsAt.boxAll 1 rfl | exact CellsAt.boxAll 2 rfl | exact CellsAt.boxAll 3 rfl | exact CellsAt.boxAll 4 rfl) rfl rfl (by omega) (fun _ _ => ⟨_, setQ, ?_⟩)) | refine WL.step rfl (StepTo.append 1 rfl rfl rfl rfl rfl rfl rfl rfl rfl rfl rfl rfl (by first | exact CellsAt.boxAll 0 rfl | exact CellsAt.boxAll 1 rfl | exact CellsAt.boxAll 2 rfl | exact CellsAt.boxAll 3 rfl | exact CellsAt.boxAll 4 rfl) rfl rfl (by omega) (fun _ _ => ⟨_, setQ, ?_⟩)) | refine WL.step rfl (StepTo.append 2 rfl rfl rfl rfl rfl rfl rfl rfl rfl rfl rfl rfl (by first | exact CellsAt.boxAll 0 rfl | exact CellsAt.boxAll 1 rfl | exact CellsAt.boxAll 2 rfl | exact CellsAt.boxAll 3 rfl | exact CellsAt.boxAll 4 rfl) rfl rfl (by omega) (fun _ _ => ⟨_, setQ, ?_⟩)) | refine WL.step rfl (StepTo.append 3 rfl rfl rfl rfl rfl rfl rfl rfl rfl rfl rfl rfl (by first | exact CellsAt.boxAll 0 rfl | exact CellsAt.boxAll 1 rfl | exact CellsAt.boxAll 2 rfl | exact CellsAt.boxAll 3 rfl | exact CellsAt.boxAll 4 rfl) rfl rfl (by omega) (fun _ _ => ⟨_, setQ, ?_⟩)) | refine WL.step rfl (StepTo.append 4 rfl rfl rfl rfl rfl rfl rfl rfl rfl rfl rfl rfl (by first | exact CellsAt.boxAll 0 rfl | exact CellsAt.boxAll 1 rfl | exact CellsAt.boxAll 2 rfl | exact CellsAt.boxAll 3 rfl | exact CellsAt.boxAll 4 rfl) rfl rfl (by omega) (fun _ _ => ⟨_, setQ, ?_⟩)) | refine WL.step rfl (StepTo.append 5 rfl rfl rfl rfl rfl rfl rfl rfl rfl rfl rfl rfl (by first | exact CellsAt.boxAll 0 rfl | exact CellsAt.boxAll 1 rfl | exact CellsAt.boxAll 2 rfl | exact CellsAt.boxAll 3 rfl | exact CellsAt.boxAll 4 rfl) rfl rfl (by omega) (fun _ _ => ⟨_, setQ, ?_⟩)) | refine WL.step rfl (StepTo.append 6 rfl rfl rfl rfl rfl rfl rfl rfl rfl rfl rfl rfl (by first | exact CellsAt.boxAll 0 rfl | exact CellsAt.boxAll 1 rfl | exact CellsAt.boxAll 2 rfl | exact CellsAt.boxAll 3 rfl | exact CellsAt.boxAll 4 rfl) rfl rfl (by omega) (fun _ _ => ⟨_, setQ, ?_⟩)))
    | refine WL.yld rfl (Yld.as (Yld.sliceLo (lo := i) rfl rfl rfl rfl rfl rfl (by omega)) hc0) ?_
    | (refine WC.cond rfl (fun hc => ?_) (fun hc => ?_) <;> (try first | (with_reducible replace hc := of_decide_eq_true hc) | (with_reducible replace hc := of_decide_eq_false hc) | (with_reducible replace hc := eqT hc) | (with_reducible replace hc := eqF hc) | (with_reducible replace hc := neT hc) | (with_reducible replace hc := neF hc) | (with_reducible replace hc := noT hc) | (with_reducible replace hc := noF hc)) <;> (try (exfalso; omega))))
    refine WL.step rfl (StepTo.copyBox (vs := [.int .u32 x]) 0 rfl rfl rfl rfl rfl rfl rfl rfl (CellsAt.boxAll 1 rfl) (by show 1 = min 1 _; omega) (by rw [over_length _ _ _ (by rw [hdl, List.length_append, hcl]; omega), List.length_append, hcl]; simp; omega) hx1 (ins_cells hcl (by omega) (by omega)) setQ ?_)
    repeat' (first
    | refine goS ?_
    | ((with_reducible refine WL.isN_bin ?_); first | refine WL.yld rfl binQ ?_)
    | ((with_reducible refine WL.isN_call ?_); first | refine WL.yld rfl lenQ ?_ | refine WL.step rfl (StepTo.append 0 rfl rfl rfl rfl rfl rfl rfl rfl rfl rfl rfl rfl (by first | exact CellsAt.boxAll 0 rfl | exact CellsAt.boxAll 1 rfl | exact CellsAt.boxAll 2 rfl | exact CellsAt.boxAll 3 rfl | exact CellsAt.boxAll 4 rfl) rfl rfl (by omega) (fun _ _ => ⟨_, setQ, ?_⟩)) | refine WL.step rfl (StepTo.append 1 rfl rfl rfl rfl rfl rfl rfl rfl rfl rfl rfl rfl (by first | exact CellsAt.boxAll 0 rfl | exact CellsAt.boxAll 1 rfl | exact CellsAt.boxAll 2 rfl | exact CellsAt.boxAll 3 rfl | exact CellsAt.boxAll 4 rfl) rfl rfl (by omega) (fun _ _ => ⟨_, setQ, ?_⟩)) | refine WL.step rfl (StepTo.append 2 rfl rfl rfl rfl rfl rfl rfl rfl rfl rfl rfl rfl (by first | exact CellsAt.boxAll 0 rfl | exact CellsAt.boxAll 1 rfl | exact CellsAt.boxAll 2 rfl | exact CellsAt.boxAll 3 rfl | exact CellsAt.boxAll 4 rfl) rfl rfl (by omega) (fun _ _ => ⟨_, setQ, ?_⟩)) | refine WL.step rfl (StepTo.append 3 rfl rfl rfl rfl rfl rfl rfl rfl rfl rfl rfl rfl (by first | exact CellsAt.boxAll 0 rfl | exact CellsAt.boxAll 1 rfl | exact CellsAt.boxAll 2 rfl | exact CellsAt.boxAll 3 rfl | exact CellsAt.boxAll 4 rfl) rfl rfl (by omega) (fun _ _ => ⟨_, setQ, ?_⟩)) | refine WL.step rfl (StepTo.append 4 rfl rfl rfl rfl rfl rfl rfl rfl rfl rfl rfl rfl (by first | exact CellsAt.boxAll 0 rfl | exact CellsAt.boxAll 1 rfl | exact CellsAt.boxAll 2 rfl | exact CellsAt.boxAll 3 rfl | exact CellsAt.boxAll 4 rfl) rfl rfl (by omega) (fun _ _ => ⟨_, setQ, ?_⟩)) | refine WL.step rfl (StepTo.append 5 rfl rfl rfl rfl rfl rfl rfl rfl rfl rfl rfl rfl (by first | exact CellsAt.boxAll 0 rfl | exact CellsAt.boxAll 1 rfl | exact CellsAt.boxAll 2 rfl | exact CellsAt.boxAll 3 rfl | exact CellsAt.boxAll 4 rfl) rfl rfl (by omega) (fun _ _ => ⟨_, setQ, ?_⟩)) | refine WL.step rfl (StepTo.append 6 rfl rfl rfl rfl rfl rfl rfl rfl rfl rfl rfl rfl (by first | exact CellsAt.boxAll 0 rfl | exact CellsAt.boxAll 1 rfl | exact CellsAt.boxAll 2 rfl | exact CellsAt.boxAll 3 rfl | exact CellsAt.boxAll 4 rfl) rfl rfl (by omega) (fun _ _ => ⟨_, setQ, ?_⟩)))
    | (refine WC.cond rfl (fun hc => ?_) (fun hc => ?_) <;> (try first | (with_reducible replace hc := of_decide_eq_true hc) | (with_reducible replace hc := of_decide_eq_false hc) | (with_reducible replace hc := eqT hc) | (with_reducible replace hc := eqF hc) | (with_reducible replace hc := neT hc) | (with_reducible replace hc := neF hc) | (with_reducible replace hc := noT hc) | (with_reducible replace hc := noF hc)) <;> (try (exfalso; omega))))
    rw [← hfin]
    refine WQ.boxRowC 0 (n + 1) c 1 rfl hln (by rw [List.length_drop]; omega) hroom hcm ?_
    exact WQ.body (Reads.tmp rfl rfl) fun w' hw' => ⟨_, _, rfl, ⟨_, _, rfl, rfl⟩, (hw'.pick (idx := [0]) ⟨by decide, rfl⟩).toMod (by simp [Item.mine])⟩
  · obtain ⟨q, hq⟩ : ∃ q, q = n + 1 - i := ⟨_, rfl⟩
    repeat' (first
    | refine goS ?_
    | ((with_reducible refine WL.isN_bin ?_); first | refine WL.yld rfl binQ ?_)
    | ((with_reducible refine WL.isN_call ?_); first | refine WL.yld rfl (Yld.cap rfl rfl rfl) ?_ | refine WL.yld rfl lenQ ?_ | refine WL.step rfl (StepTo.append 0 rfl rfl rfl rfl rfl rfl rfl rfl rfl rfl rfl rfl (by first | exact CellsAt.boxAll 0 rfl | exact CellsAt.boxAll 1 rfl | exact CellsAt.boxAll 2 rfl | exact CellsAt.boxAll 3 rfl | exact CellsAt.boxAll 4 rfl) rfl rfl (by omega) (fun _ _ => ⟨_, setQ, ?_⟩)) | refine WL.step rfl (StepTo.append 1 rfl rfl rfl rfl rfl rfl rfl rfl rfl rfl rfl rfl (by first | exact CellsAt.boxAll 0 rfl | exact CellsAt.boxAll 1 rfl | exact CellsAt.boxAll 2 rfl | exact CellsAt.boxAll 3 rfl | exact CellsAt.boxAll 4 rfl) rfl rfl (by omega) (fun _ _ => ⟨_, setQ, ?_⟩)) | refine WL.step rfl (StepTo.append 2 rfl rfl rfl rfl rfl rfl rfl rfl rfl rfl rfl rfl (by first | exact CellsAt.boxAll 0 rfl | exact CellsAt.boxAll 1 rfl | exact CellsAt.boxAll 2 rfl | exact CellsAt.boxAll 3 rfl | exact CellsAt.boxAll 4 rfl) rfl rfl (by omega) (fun _ _ => ⟨_, setQ, ?_⟩)) | refine WL.step rfl (StepTo.append 3 rfl rfl rfl rfl rfl rfl rfl rfl rfl rfl rfl rfl (by first | exact CellsAt.boxAll 0 rfl | exact CellsAt.boxAll 1 rfl | exact CellsAt.boxAll 2 rfl | exact CellsAt.boxAll 3 rfl | exact CellsAt.boxAll 4 rfl) rfl rfl (by omega) (fun _ _ => ⟨_, setQ, ?_⟩)) | refine WL.step rfl (StepTo.append 4 rfl rfl rfl rfl rfl rfl rfl rfl rfl rfl rfl rfl (by first | exact CellsAt.boxAll 0 rfl | exact CellsAt.boxAll 1 rfl | exact CellsAt.boxAll 2 rfl | exact CellsAt.boxAll 3 rfl | exact CellsAt.boxAll 4 rfl) rfl rfl (by omega) (fun _ _ => ⟨_, setQ, ?_⟩)) | refine WL.step rfl (StepTo.append 5 rfl rfl rfl rfl rfl rfl rfl rfl rfl rfl rfl rfl (by first | exact CellsAt.boxAll 0 rfl | exact CellsAt.boxAll 1 rfl | exact CellsAt.boxAll 2 rfl | exact CellsAt.boxAll 3 rfl | exact CellsAt.boxAll 4 rfl) rfl rfl (by omega) (fun _ _ => ⟨_, setQ, ?_⟩)) | refine WL.step rfl (StepTo.append 6 rfl rfl rfl rfl rfl rfl rfl rfl rfl rfl rfl rfl (by first | exact CellsAt.boxAll 0 rfl | exact CellsAt.boxAll 1 rfl | exact CellsAt.boxAll 2 rfl | exact CellsAt.boxAll 3 rfl | exact CellsAt.boxAll 4 rfl) rfl rfl (by omega) (fun _ _ => ⟨_, setQ, ?_⟩)))
    | refine WL.yld rfl (Yld.sliceLo (lo := i) rfl rfl rfl rfl rfl rfl (by omega)) ?_
    | refine WL.yld rfl (Yld.sliceHi (h := i) rfl rfl rfl rfl rfl rfl (by omega)) ?_
    | (refine WC.cond rfl (fun hc => ?_) (fun hc => ?_) <;> (try first | (with_reducible replace hc := of_decide_eq_true hc) | (with_reducible replace hc := of_decide_eq_false hc) | (with_reducible replace hc := eqT hc) | (with_reducible replace hc := eqF hc) | (with_reducible replace hc := neT hc) | (with_reducible replace hc := neF hc) | (with_reducible replace hc := noT hc) | (with_reducible replace hc := noF hc)) <;> (try (exfalso; omega))))
    refine WL.step rfl (StepTo.appendZ (q := q) 0 rfl rfl rfl rfl rfl rfl rfl rfl rfl rfl (by omega) (by omega) (by omega) (by omega) (by omega) (by decide) (fun b c' => ?_))
    have hqn : i + q = n + 1 := by omega
    rw [hqn]
    refine WL.rowBox 0 rfl fun sp hsp hnc hcm => ?_
    have hc1 : Value.slice (cutA (some ⟨b, 0, none⟩) c' (i + 1) 1) (n + 1 - (i + 1)) (c' - (i + 1)) = .slice (some ⟨b, i + 1, none⟩) (n + 1 - (i + 1)) (c' - (i + 1)) := by rw [cutA_in (by omega), Nat.mul_one]
    have hc0 : Value.slice (cutA (some ⟨b, 0, none⟩) c' i 1) (n + 1 - i) (c' - i) = .slice (some ⟨b, i, none⟩) (n + 1 - i) (c' - i) := by rw [cutA_in (by omega), Nat.mul_one]
    have hc2 : Value.slice (cutA (some ⟨g, 0, none⟩) c i 1) (n - i) (c - i) = .slice (some ⟨g, i, none⟩) (n - i) (c - i) := by rw [cutA_in (by omega), Nat.mul_one]
    subst hq
    repeat' (first
    | refine goS ?_
    | ((with_reducible refine WL.isN_bin ?_); first | refine WL.yld rfl binQ ?_)
    | ((with_reducible refine WL.isN_call ?_); first | refine WL.yld rfl lenQ ?_ | refine WL.step rfl (StepTo.append 0 rfl rfl rfl rfl rfl rfl rfl rfl rfl rfl rfl rfl (by first | exact CellsAt.boxAll 0 rfl | exact CellsAt.boxAll 1 rfl | exact CellsAt.boxAll 2 rfl | exact CellsAt.boxAll 3 rfl | exact CellsAt.boxAll 4 rfl) rfl rfl (by omega) (fun _ _ => ⟨_, setQ, ?_⟩)) | refine WL.step rfl (StepTo.append 1 rfl rfl rfl rfl rfl rfl rfl rfl rfl rfl rfl rfl (by first | exact CellsAt.boxAll 0 rfl | exact CellsAt.boxAll 1 rfl | exact CellsAt.boxAll 2 rfl | exact CellsAt.boxAll 3 rfl | exact CellsAt.boxAll 4 rfl) rfl rfl (by omega) (fun _ _ => ⟨_, setQ, ?_⟩)) | refine WL.step rfl (StepTo.append 2 rfl rfl rfl rfl rfl rfl rfl rfl rfl rfl rfl rfl (by first | exact CellsAt.boxAll 0 rfl | exact CellsAt.boxAll 1 rfl | exact CellsAt.boxAll 2 rfl | exact CellsAt.boxAll 3 rfl | exact CellsAt.boxAll 4 rfl) rfl rfl (by omega) (fun _ _ => ⟨_, setQ, ?_⟩)) | refine WL.step rfl (StepTo.append 3 rfl rfl rfl rfl rfl rfl rfl rfl rfl rfl rfl rfl (by first | exact CellsAt.boxAll 0 rfl | exact CellsAt.boxAll 1 rfl | exact CellsAt.boxAll 2 rfl | exact CellsAt.boxAll 3 rfl | exact CellsAt.boxAll 4 rfl) rfl rfl (by omega) (fun _ _ => ⟨_, setQ, ?_⟩)) | refine WL.step rfl (StepTo.append 4 rfl rfl rfl rfl rfl rfl rfl rfl rfl rfl rfl rfl (by first | exact CellsAt.boxAll 0 rfl | exact CellsAt.boxAll 1 rfl | exact CellsAt.boxAll 2 rfl | exact CellsAt.boxAll 3 rfl | exact CellsAt.boxAll 4 rfl) rfl rfl (by omega) (fun _ _ => ⟨_, setQ, ?_⟩)) | refine WL.step rfl (StepTo.append 5 rfl rfl rfl rfl rfl rfl rfl rfl rfl rfl rfl rfl (by first | exact CellsAt.boxAll 0 rfl | exact CellsAt.boxAll 1 rfl | exact CellsAt.boxAll 2 rfl | exact CellsAt.boxAll 3 rfl | exact CellsAt.boxAll 4 rfl) rfl rfl (by omega) (fun _ _ => ⟨_, setQ, ?_⟩)) | refine WL.step rfl (StepTo.append 6 rfl rfl rfl rfl rfl rfl rfl rfl rfl rfl rfl rfl (by first | exact CellsAt.boxAll 0 rfl | exact CellsAt.boxAll 1 rfl | exact CellsAt.boxAll 2 rfl | exact CellsAt.boxAll 3 rfl | exact CellsAt.boxAll 4 rfl) rfl rfl (by omega) (fun _ _ => ⟨_, setQ, ?_⟩)))
    | refine WL.yld rfl (Yld.as (Yld.sliceLo (lo := i) rfl rfl rfl rfl rfl rfl (by omega)) hc0) ?_
    | (refine WC.cond rfl (fun hc => ?_) (fun hc => ?_) <;> (try first | (with_reducible replace hc := of_decide_eq_true hc) | (with_reducible replace hc := of_decide_eq_false hc) | (with_reducible replace hc := eqT hc) | (with_reducible replace hc := eqF hc) | (with_reducible replace hc := neT hc) | (with_reducible replace hc := neF hc) | (with_reducible replace hc := noT hc) | (with_reducible replace hc := noF hc)) <;> (try (exfalso; omega))))
    refine WL.step rfl (StepTo.copyBox (vs := [.int .u32 x]) 0 rfl rfl rfl rfl rfl rfl rfl rfl (CellsAt.boxAll 2 rfl) (by show 1 = min 1 _; omega) (by simp [hcl]; omega) hx1 rfl setQ ?_)
    repeat' (first
    | refine goS ?_
    | ((with_reducible refine WL.isN_bin ?_); first | refine WL.yld rfl binQ ?_)
    | ((with_reducible refine WL.isN_call ?_); first | refine WL.yld rfl lenQ ?_ | refine WL.step rfl (StepTo.append 0 rfl rfl rfl rfl rfl rfl rfl rfl rfl rfl rfl rfl (by first | exact CellsAt.boxAll 0 rfl | exact CellsAt.boxAll 1 rfl | exact CellsAt.boxAll 2 rfl | exact CellsAt.boxAll 3 rfl | exact CellsAt.boxAll 4 rfl) rfl rfl (by omega) (fun _ _ => ⟨_, setQ, ?_⟩)) | refine WL.step rfl (StepTo.append 1 rfl rfl rfl rfl rfl rfl rfl rfl rfl rfl rfl rfl (by first | exact CellsAt.boxAll 0 rfl | exact CellsAt.boxAll 1 rfl | exact CellsAt.boxAll 2 rfl | exact CellsAt.boxAll 3 rfl | exact CellsAt.boxAll 4 rfl) rfl rfl (by omega) (fun _ _ => ⟨_, setQ, ?_⟩)) | refine WL.step rfl (StepTo.append 2 rfl rfl rfl rfl rfl rfl rfl rfl rfl rfl rfl rfl (by first | exact CellsAt.boxAll 0 rfl | exact CellsAt.boxAll 1 rfl | exact CellsAt.boxAll 2 rfl | exact CellsAt.boxAll 3 rfl | exact CellsAt.boxAll 4 rfl) rfl rfl (by omega) (fun _ _ => ⟨_, setQ, ?_⟩)) | refine WL.step rfl (StepTo.append 3 rfl rfl rfl rfl rfl rfl rfl rfl rfl rfl rfl rfl (by first | exact CellsAt.boxAll 0 rfl | exact CellsAt.boxAll 1 rfl | exact CellsAt.boxAll 2 rfl | exact CellsAt.boxAll 3 rfl | exact CellsAt.boxAll 4 rfl) rfl rfl (by omega) (fun _ _ => ⟨_, setQ, ?_⟩)) | refine WL.step rfl (StepTo.append 4 rfl rfl rfl rfl rfl rfl rfl rfl rfl rfl rfl rfl (by first | exact CellsAt.boxAll 0 rfl | exact CellsAt.boxAll 1 rfl | exact CellsAt.boxAll 2 rfl | exact CellsAt.boxAll 3 rfl | exact CellsAt.boxAll 4 rfl) rfl rfl (by omega) (fun _ _ => ⟨_, setQ, ?_⟩)) | refine WL.step rfl (StepTo.append 5 rfl rfl rfl rfl rfl rfl rfl rfl rfl rfl rfl rfl (by first | exact CellsAt.boxAll 0 rfl | exact CellsAt.boxAll 1 rfl | exact CellsAt.boxAll 2 rfl | exact CellsAt.boxAll 3 rfl | exact CellsAt.boxAll 4 rfl) rfl rfl (by omega) (fun _ _ => ⟨_, setQ, ?_⟩)) | refine WL.step rfl (StepTo.append 6 rfl rfl rfl rfl rfl rfl rfl rfl rfl rfl rfl rfl (by first | exact CellsAt.boxAll 0 rfl | exact CellsAt.boxAll 1 rfl | exact CellsAt.boxAll 2 rfl | exact CellsAt.boxAll 3 rfl | exact CellsAt.boxAll 4 rfl) rfl rfl (by omega) (fun _ _ => ⟨_, setQ, ?_⟩)))
    | (refine WC.cond rfl (fun hc => ?_) (fun hc => ?_) <;> (try first | (with_reducible replace hc := of_decide_eq_true hc) | (with_reducible replace hc := of_decide_eq_false hc) | (with_reducible replace hc := eqT hc) | (with_reducible replace hc := eqF hc) | (with_reducible replace hc := neT hc) | (with_reducible replace hc := neF hc) | (with_reducible replace hc := noT hc) | (with_reducible replace hc := noF hc)) <;> (try (exfalso; omega))))
    refine WC.tail 8 (by kernel_rfl) (by kernel_rfl) ?_
    simp only [List.take_succ_cons, List.take_zero, List.drop_succ_cons, List.drop_zero]
    repeat (first | refine WT.yld rfl (Yld.as (Yld.sliceLo (lo := i + 1) rfl rfl rfl rfl rfl (by omega) (by omega)) hc1) ?_ | refine WT.yld rfl (Yld.as (Yld.sliceLo (lo := i) rfl rfl rfl rfl rfl rfl (by omega)) hc2) ?_ | refine WT.yld rfl (Yld.pure rfl nrmQ) ?_)
    refine WT.nil ?_
    refine WL.step rfl (StepTo.copyBox (vs := (flat (ic .u32) xs).drop i) 0 rfl rfl rfl rfl rfl rfl rfl rfl (CellsAt.rowQ 1 rfl hpt0) (by rw [hdl]; show _ = min _ _; omega) (by rw [over_length _ _ _ (by simp [hcl]; omega), hdl]; simp [hcl]; omega) hd1 (ins_cells2 hcl (by omega)) setQ ?_)
    repeat' (first
    | refine goS ?_
    | ((with_reducible refine WL.isN_bin ?_); first | refine WL.yld rfl binQ ?_)
    | ((with_reducible refine WL.isN_call ?_); first | refine WL.yld rfl lenQ ?_ | refine WL.step rfl (StepTo.append 0 rfl rfl rfl rfl rfl rfl rfl rfl rfl rfl rfl rfl (by first | exact CellsAt.boxAll 0 rfl | exact CellsAt.boxAll 1 rfl | exact CellsAt.boxAll 2 rfl | exact CellsAt.boxAll 3 rfl | exact CellsAt.boxAll 4 rfl) rfl rfl (by omega) (fun _ _ => ⟨_, setQ, ?_⟩)) | refine WL.step rfl (StepTo.append 1 rfl rfl rfl rfl rfl rfl rfl rfl rfl rfl rfl rfl (by first | exact CellsAt.boxAll 0 rfl | exact CellsAt.boxAll 1 rfl | exact CellsAt.boxAll 2 rfl | exact CellsAt.boxAll 3 rfl | exact CellsAt.boxAll 4 rfl) rfl rfl (by omega) (fun _ _ => ⟨_, setQ, ?_⟩)) | refine WL.step rfl (StepTo.append 2 rfl rfl rfl rfl rfl rfl rfl rfl rfl rfl rfl rfl (by first | exact CellsAt.boxAll 0 rfl | exact CellsAt.boxAll 1 rfl | exact CellsAt.boxAll 2 rfl | exact CellsAt.boxAll 3 rfl | exact CellsAt.boxAll 4 rfl) rfl rfl (by omega) (fun _ _ => ⟨_, setQ, ?_⟩)) | refine WL.step rfl (StepTo.append 3 rfl rfl rfl rfl rfl rfl rfl rfl rfl rfl rfl rfl (by first | exact CellsAt.boxAll 0 rfl | exact CellsAt.boxAll 1 rfl | exact CellsAt.boxAll 2 rfl | exact CellsAt.boxAll 3 rfl | exact CellsAt.boxAll 4 rfl) rfl rfl (by omega) (fun _ _ => ⟨_, setQ, ?_⟩)) | refine WL.step rfl (StepTo.append 4 rfl rfl rfl rfl rfl rfl rfl rfl rfl rfl rfl rfl (by first | exact CellsAt.boxAll 0 rfl | exact CellsAt.boxAll 1 rfl | exact CellsAt.boxAll 2 rfl | exact CellsAt.boxAll 3 rfl | exact CellsAt.boxAll 4 rfl) rfl rfl (by omega) (fun _ _ => ⟨_, setQ, ?_⟩)) | refine WL.step rfl (StepTo.append 5 rfl rfl rfl rfl rfl rfl rfl rfl rfl rfl rfl rfl (by first | exact CellsAt.boxAll 0 rfl | exact CellsAt.boxAll 1 rfl | exact CellsAt.boxAll 2 rfl | exact CellsAt.boxAll 3 rfl | exact CellsAt.boxAll 4 rfl) rfl rfl (by omega) (fun _ _ => ⟨_, setQ, ?_⟩)) | refine WL.step rfl (StepTo.append 6 rfl rfl rfl rfl rfl rfl rfl rfl rfl rfl rfl rfl (by first | exact CellsAt.boxAll 0 rfl | exact CellsAt.boxAll 1 rfl | exact CellsAt.boxAll 2 rfl | exact CellsAt.boxAll 3 rfl | exact CellsAt.boxAll 4 rfl) rfl rfl (by omega) (fun _ _ => ⟨_, setQ, ?_⟩)))
    | (refine WC.cond rfl (fun hc => ?_) (fun hc => ?_) <;> (try first | (with_reducible replace hc := of_decide_eq_true hc) | (with_reducible replace hc := of_decide_eq_false hc) | (with_reducible replace hc := eqT hc) | (with_reducible replace hc := eqF hc) | (with_reducible replace hc := neT hc) | (with_reducible replace hc := neF hc) | (with_reducible replace hc := noT hc) | (with_reducible replace hc := noF hc)) <;> (try (exfalso; omega))))
    rw [← hfin]
    refine WQ.boxRowC 0 (n + 1) c' 1 rfl hln (by omega) hnc hcm ?_
    exact WQ.body (Reads.tmp rfl rfl) fun w' hw' => ⟨_, _, rfl, ⟨_, _, rfl, rfl⟩, (hw'.pick (idx := [0]) ⟨by decide, rfl⟩).toMod (by simp [Item.mine])⟩
end Go.Proofs.Ythbhjnmkbmmcnaa
