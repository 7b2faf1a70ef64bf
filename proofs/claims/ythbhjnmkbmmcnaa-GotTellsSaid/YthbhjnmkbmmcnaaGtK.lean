/- The chunk that tells what came: appending texts and noughts to rows; tlv's Pad and Build of nothing; whether gaps rise; what fits; slices that are the same. -/
import Derived.Test.YthbhjnmkbmmcnaaGtD
import Derived.Test.YthbhjnmkbmmcnaaMm
import Derived.Test.YthbhjnmkbmmcnaaBls
namespace Go.Proofs.Ythbhjnmkbmmcnaa
open Go.RowKit Go.IntWalk Go.Lib
set_option linter.unusedVariables false
set_option linter.unusedSimpArgs false
set_option linter.unusedSectionVars false
set_option maxRecDepth 100000

section
variable {P : Program} {w : World} {t u ty e tn : TypeId} {i : TypeInfo}
theorem append_strR (ht : P.underlying t = some (.slice e)) (hu : P.underlying u = some .string) (hi : P.info? e = some i) (hz : i.zero = some (.int .u8 0)) (hsize : i.size = 1) (hby : i.bytes = 1) {g n c : Nat} {xs : List Value}
    (hown : w.ownsRow 0 e 1 (.slice (some ⟨g, 0, none⟩) n c) n xs) (s : ByteArray) (hb : n + s.size ≤ 140737488355328) :
    ∃ A' c' w', (Builtin.append_ #[t, u] ty #[.slice (some ⟨g, 0, none⟩) n c, .string s]).run P w = .ok (.slice A' (n + s.size) c') w' ∧ w'.ownsRow 0 e 1 (.slice A' (n + s.size) c') (n + s.size) (xs ++ strCells s) ∧ w.grownBy w' (some g) ∧
      (∀ b, A'.map (·.block) = some b → b = g ∨ w.heap.size ≤ b) := by
  have h63 : n + s.size ≤ maxLen := by simp only [maxLen]; omega
  obtain ⟨v', w', r1, r2, r3, r4⟩ := run_append_own_string (P := P) w 0 t u ty e i ht hu hi hz hsize hby _ n xs hown s h63 hb (Nat.zero_le _)
  obtain ⟨A', c', rfl⟩ := own_shape r2
  refine ⟨A', c', w', r1, r2, r3, fun b2 hb' => ?_⟩
  rcases hown.2 with ⟨hv, _⟩ | ⟨g', cap, cur, hv, hbg, hg, hnc, hcm, hcs, htake⟩
  · cases hv
  · injection hv with hA _ hc
    injection hA with hA
    injection hA with hA
    subst hA hc
    by_cases hroom : n + s.size ≤ c
    · have hcs' : cur.size = c := by simpa using hcs
      have hr := run_append_room_string (P := P) w t u ty e i ht hu hi hsize g n c cur hg s hroom (by omega)
      rw [hr] at r1
      injection r1 with e1 e2
      injection e1 with e3
      rw [← e3] at hb'
      simp only [Option.map_some, Option.some.injEq] at hb'
      exact .inl hb'.symm
    · have holds : ∀ j u, xs[j]? = some u → w.cell? ((⟨g, 0, none⟩ : Addr).add j) = some u := hown.cells (g := g) rfl
      have hr := run_append_grow_string (P := P) w t u ty e i (.int .u8 0) ht hu hi hz ⟨g, 0, none⟩ n c xs (by rw [hsize]; simpa using hown.1) holds s (by omega) (by omega) (by rw [hby]; exact growslice_fits (by omega) (by omega))
      rw [hr] at r1
      injection r1 with e1 e2
      injection e1 with e3
      rw [← e3] at hb'
      simp only [Option.map_some, Option.some.injEq] at hb'
      exact .inr (by omega)
theorem zeros_str (q : Nat) : (Builtin.zeroCells (Value.int .u8 0).cells q).toList = strCells (bs (List.replicate q 0)) := by
  rw [strCells_bs, List.map_replicate]
  apply List.ext_getElem?
  intro j
  by_cases hj : j < q
  · simp [Builtin.zeroCells, Value.cells, List.getElem?_replicate, List.getElem?_range, hj, Nat.mod_one, bv]
  · simp [Builtin.zeroCells, Value.cells, List.getElem?_replicate, List.getElem?_eq_none, hj]
/-- Noughts behind a row of bytes are as a text of noughts. -/
theorem append_noughts (ht : P.underlying t = some (.slice e)) (hu : P.underlying u = some .string) (htn : P.underlying tn = some (.int .i64)) (hi : P.info? e = some i) (hz : i.zero = some (.int .u8 0)) (hsize : i.size = 1) (hby : i.bytes = 1) {g n c q : Nat} {xs : List Value}
    (hown : w.ownsRow 0 e 1 (.slice (some ⟨g, 0, none⟩) n c) n xs) (hb : n + q ≤ 140737488355328) :
    (Builtin.append_ #[t, tn] ty #[.slice (some ⟨g, 0, none⟩) n c, .int .i64 q]).run P w = (Builtin.append_ #[t, u] ty #[.slice (some ⟨g, 0, none⟩) n c, .string (bs (List.replicate q 0))]).run P w := by
  have hzz := zeros_str q
  have hss : (bs (List.replicate q 0)).size = q := by rw [bs_size, List.length_replicate]
  rcases hown.2 with ⟨hv, _⟩ | ⟨g', cap, cur, hv, hbg, hg, hnc, hcm, hcs, htake⟩
  · cases hv
  injection hv with hA _ hc
  injection hA with hA
  injection hA with hA
  subst hA hc
  have hcs' : cur.size = c := by simpa using hcs
  by_cases hroom : n + q ≤ c
  · rw [run_append_room_string (P := P) w t u ty e i ht hu hi hsize g n c cur hg (bs (List.replicate q 0)) (by omega) (by omega)]
    have hst := run_storeCells_at P g n e (strCells (bs (List.replicate q 0))) 0 cur w hg (by rw [strCells_length]; omega) (strCells_oneCell _)
    rw [← hzz] at hst ⊢
    have hlz : (Builtin.zeroCells (Value.int .u8 0).cells q).toList.length = q := by rw [hzz, strCells_length, hss]
    simp only [Nat.add_zero, hlz, hss] at hst ⊢
    have hw : IntKind.i64.wrap (q : Int) = q := by rw [IntKind.wrap_i64]; omega
    have hneg : ¬ ((q : Int) < 0) := by omega
    have h48i : ¬ (281474976710656 < (q : Int)) := by omega
    by_cases hq : q = 0
    · subst hq
      have hz0 : Builtin.zeroCells (Value.int .u8 0).cells 0 = #[] := by simp [Builtin.zeroCells]
      rw [hz0] at hst ⊢
      simp only [List.append_nil, Nat.add_zero] at hst ⊢
      have hst2 : (storeCells ⟨g, n, none⟩ []).run P w = .ok () (w.setRow g (cur.toList.take n ++ cur.toList.drop n).toArray) := by simpa using hst
      have hw0 : IntKind.i64.wrap 0 = 0 := by decide
      simp [Builtin.append_, run_underlying ht, run_underlying htn, sizeOf, typeInfo, hi, hsize, hby, asInt, asIntOf, hw0, hnc, Addr.add_lit, hst2]
    · simp [Builtin.append_, run_underlying ht, run_underlying htn, sizeOf, typeInfo, zeroValue, hz, hi, hsize, hby, asInt, asIntOf, hw, hneg, h48i, hq, hroom, Addr.add_lit, hst]
  · have holds : ∀ j u, xs[j]? = some u → w.cell? ((⟨g, 0, none⟩ : Addr).add j) = some u := hown.cells (g := g) rfl
    have hxl : xs.length = n := by simpa using hown.1
    rw [run_append_grow_string (P := P) w t u ty e i (.int .u8 0) ht hu hi hz ⟨g, 0, none⟩ n c xs (by rw [hsize]; omega) holds (bs (List.replicate q 0)) (by omega) (by omega) (by rw [hby]; exact growslice_fits (by omega) (by omega)),
      run_append_grow_zeros (P := P) w t tn ty e i (.int .u8 0) .i64 .i64 ht htn hi hz (some ⟨g, 0, none⟩) n c xs (by
        rw [hsize]
        exact run_firstCells_some w.drew 1 n ⟨g, 0, none⟩ n c xs (by omega) holds) q (by omega) (by omega) (by omega) (by omega) (by rw [hby]; omega) (by rw [hby]; exact growslice_fits (by omega) (by omega)), hss]
    congr 3
    rw [← hzz]
end
section
variable {P : Program} {w0 : World} {D : Nat → Prop} {n : Nat} [Dfr] {τ : Tm} {H : List Item} {o : Oper} {K : Tm → List Item → Prop}
/-- append(b, s...): a text behind a row of bytes. -/
theorem StepTo.appendStrR {x s : Operand} {t u e m c d g : Nat} {xs : List Value} {l : List UInt8} (i : Nat) (ho : o.op = .call { callee := .builtin .append, args := #[s, x], argTypes := #[t, u] }) (hdst : o.dst = some d) (hd : Nat.blt d n = true)
    (hs : evl τ s = some (.slice (some ⟨g, 0, none⟩) m c)) (hi : H[i]? = some (.row (some ⟨g, 0, none⟩) m c e 1 xs)) (hx : evl τ x = some (.string (bs l))) (ht : P.underlying t = some (.slice e)) (hu : P.underlying u = some .string)
    (hI : (P.info? e).map (fun i => (i.size, i.bytes, i.zero)) = some (1, 1, some (.int .u8 0))) (hm : m + l.length ≤ 140737488355328) (hm0 : 0 < m) {ys : List Value} (hys : xs ++ l.map bv = ys)
    (hK : ∀ g' c', ∃ H2, SetAt H i (.row (some ⟨g', 0, none⟩) (m + l.length) c' e 1 ys) H2 ∧ K ((d, .slice (some ⟨g', 0, none⟩) (m + l.length) c') :: τ) H2) : StepTo P w0 D n o τ H K :=
  ⟨fun Kw Q hk' a w ha hw => by
    subst hys
    obtain ⟨ti, hti, hsz, hbz, hzz⟩ := info_u8 hI
    have hrow := hw.holds _ (List.mem_of_getElem? hi)
    obtain ⟨A', c', w', hr, hown, hgr, hat⟩ := append_strR (P := P) (w := w) (ty := o.type) ht hu hti hzz hsz hbz hrow (bs l) (by rw [bs_size]; exact hm)
    rw [bs_size] at hr hown
    rw [strCells_bs] at hown
    obtain ⟨g', rfl⟩ := Item.row_shape hown (by omega)
    have hrun : (execOp a.eval o).run P w = .ok (.value (.slice (some ⟨g', 0, none⟩) (m + l.length) c')) w' := by
      simp [execOp, ho, resolve, invoke, builtin, ha.ev hs, ha.ev hx, hr]
    unfold Oper.wp
    rw [hrun, Oper.upon_value, hdst]
    obtain ⟨H2, hH, hK⟩ := hK g' c'
    refine hk' _ _ hK _ _ (ha.put (some d) _ hd) ?_
    rw [← hH.eq]
    exact hw.turn hi rfl (fun b' hb' => (hat b' hb').imp (fun h => by rw [h]; rfl) id) hown (fun b' hb' hne => hgr.block b' hb' (fun e => hne (by rw [e]; rfl))) hgr.size hgr.os hgr.tape hgr.output⟩
/-- append(b, make([]byte, q)...). -/
theorem StepTo.appendNoughts {x s : Operand} {t e m c d g tn q : Nat} {xs : List Value} {p : Int} (u : Nat) (i : Nat) (ho : o.op = .call { callee := .builtin .append, args := #[s, x], argTypes := #[t, tn] }) (hdst : o.dst = some d) (hd : Nat.blt d n = true)
    (hs : evl τ s = some (.slice (some ⟨g, 0, none⟩) m c)) (hi : H[i]? = some (.row (some ⟨g, 0, none⟩) m c e 1 xs)) (hx : evl τ x = some (.int .i64 p)) (ht : P.underlying t = some (.slice e)) (hu : P.underlying u = some .string) (htn : P.underlying tn = some (.int .i64))
    (hI : (P.info? e).map (fun i => (i.size, i.bytes, i.zero)) = some (1, 1, some (.int .u8 0))) (hp : p = (q : Nat)) (hm : m + q ≤ 140737488355328) (hm0 : 0 < m) {ys : List Value} (hys : xs ++ List.replicate q (.int .u8 0) = ys)
    (hK : ∀ g' c', ∃ H2, SetAt H i (.row (some ⟨g', 0, none⟩) (m + q) c' e 1 ys) H2 ∧ K ((d, .slice (some ⟨g', 0, none⟩) (m + q) c') :: τ) H2) : StepTo P w0 D n o τ H K :=
  ⟨fun Kw Q hk' a w ha hw => by
    subst hys
    subst hp
    obtain ⟨ti, hti, hsz, hbz, hzz⟩ := info_u8 hI
    have hrow := hw.holds _ (List.mem_of_getElem? hi)
    obtain ⟨A', c', w', hr, hown, hgr, hat⟩ := append_strR (P := P) (w := w) (ty := o.type) ht hu hti hzz hsz hbz hrow (bs (List.replicate q 0)) (by rw [bs_size, List.length_replicate]; exact hm)
    rw [← append_noughts (tn := tn) ht hu htn hti hzz hsz hbz hrow hm, bs_size, List.length_replicate] at hr
    rw [bs_size, List.length_replicate, strCells_bs, List.map_replicate] at hown
    obtain ⟨g', rfl⟩ := Item.row_shape hown (by omega)
    have hrun : (execOp a.eval o).run P w = .ok (.value (.slice (some ⟨g', 0, none⟩) (m + q) c')) w' := by
      simp [execOp, ho, resolve, invoke, builtin, ha.ev hs, ha.ev hx, hr]
    unfold Oper.wp
    rw [hrun, Oper.upon_value, hdst]
    obtain ⟨H2, hH, hK⟩ := hK g' c'
    refine hk' _ _ hK _ _ (ha.put (some d) _ hd) ?_
    rw [← hH.eq]
    exact hw.turn hi rfl (fun b' hb' => (hat b' hb').imp (fun h => by rw [h]; rfl) id) hown (fun b' hb' hne => hgr.block b' hb' (fun e => hne (by rw [e]; rfl))) hgr.size hgr.os hgr.tape hgr.output⟩
theorem Yld.xorI {T : Nat} {x : Operand} {k : IntKind} {m : Int} {v : Value} (ho : o.op = .unOp .xor T x) (hx : evl τ x = some (.int k m)) (hv : Value.int k (k.wrap (BitVec.ofInt k.bits (if k.signed then -1 else k.max) ^^^ BitVec.ofInt k.bits m).toNat) = v) : Yld P w0 D n o τ H v :=
  ⟨fun a w h hw => by subst hv; simp [execOp, ho, h.ev hx, Op.unary, Op.intBits, Sem.run_pure]⟩
theorem Yld.shrE {T u : Nat} {x y : Operand} {k k' : IntKind} {p z : Int} {v : Value} (q : Nat) (ho : o.op = .binOp .shr T x y u) (hx : evl τ x = some (.int k p)) (hy : evl τ y = some (.int k' z)) (hz : z = (q : Int)) (hq : q ≤ k.bits) (hv : Value.int k (p / 2 ^ q) = v) : Yld P w0 D n o τ H v := by
  subst hz
  exact Yld.shr q ho hx hy (by rw [Nat.ble_eq]; exact hq) hv
/-- One row that a callee writes, and one that it reads. -/
theorem Sat.lone2 {w : World} {r v : Item} {i j : Nat} (hw : Sat w0 D H w) (hp : Pick [i, j] H [r, v]) (hv : v.mine = false) : Sat w (Bs [r]) [r, v] w :=
  ⟨Ext.refl, (hw.pick hp).holds, (fun it hit hm b hb => by
    simp only [List.mem_cons, List.not_mem_nil, or_false] at hit
    rcases hit with rfl | rfl
    · exact .inr ⟨_, List.mem_singleton.2 rfl, hb⟩
    · rw [hv] at hm; cases hm), (hw.pick hp).apart⟩
end
theorem wrap8 (z : Int) : ∃ y : UInt8, Value.int .u8 (IntKind.u8.wrap z) = bv y := by
  refine ⟨UInt8.ofNat (z % 256).toNat, ?_⟩
  rw [IntKind.wrap_u8, bv]
  congr 1
  have h := UInt8.toNat_ofNat' (n := (z % 256).toNat)
  rw [h]
  omega
theorem pad_q (m : Nat) (hm : m ≤ 1000000) : ∃ r : Nat, r ≤ 3 ∧ ∀ w : World, Calls Try.prog 49 #[.int .i64 (m : Nat)] w fun e w' => e = .returned (.int .i64 (r : Nat)) ∧ Below w.heap.size w w' := by
  obtain ⟨r, hr⟩ : ∃ r, r = (BitVec.ofInt IntKind.i64.bits (-(m : Int)) &&& BitVec.ofInt IntKind.i64.bits 3).toNat := ⟨_, rfl⟩
  have hr3 : r ≤ 3 := by
    rw [hr, BitVec.toNat_and]
    exact Nat.le_trans Nat.and_le_right (by decide)
  have h1 : Value.int .i64 (max (m : Int) 0) = .int .i64 (m : Nat) := by congr 1; omega
  have h2 : Value.int .i64 (IntKind.i64.wrap (0 - (m : Int))) = .int .i64 (-(m : Int)) := by rw [i64_in _ (by omega)]; congr 1; omega
  have h3 : Value.int .i64 (IntKind.i64.wrap (((BitVec.ofInt IntKind.i64.bits (-(m : Int)) &&& BitVec.ofInt IntKind.i64.bits 3).toNat : Nat) : Int)) = .int .i64 (r : Nat) := by rw [← hr, i64_in _ (by omega)]
  refine ⟨r, hr3, fun w => ?_⟩
  clear hr
  refine enterW (fun _ => False) _ Try.func49 rfl (by simp only [Try.ntmps49, List.length_cons, List.length_nil, Nat.reduceAdd, Nat.reduceSub]; rfl) ?_
  repeat' (first
    | with_reducible refine WL.nil ?_
    | with_reducible refine WQ.thenN ?_
    | with_reducible refine WQ.code ?_
    | with_reducible refine WC.seq ?_
    | with_reducible refine WC.region ?_
    | ((with_reducible refine WL.isN_move ?_); first | refine WL.yld rfl (Yld.pure rfl nrmQ) ?_)
    | ((with_reducible refine WL.isN_assign ?_); first | refine WL.yld rfl (Yld.pure rfl nrmQ) ?_)
    | ((with_reducible refine WL.isN_bin ?_); first | refine WL.yld rfl (Yld.pure rfl h3) ?_ | refine WL.yld rfl (Yld.pure rfl nrmQ) ?_ | refine WL.yld rfl (Yld.rem rfl rfl rfl rfl (by omega) (by omega)) ?_ | refine WL.yld rfl (Yld.quo rfl rfl rfl rfl (by omega) (by omega) nrmQ) ?_ | refine WL.yld rfl (Yld.eqlB rfl rfl rfl rfl) ?_ | refine WL.yld rfl (Yld.neqB rfl rfl rfl rfl) ?_ | refine WL.yld rfl (Yld.eqlA 4 rfl rfl rfl (by kernel_rfl) (by kernel_rfl) rfl rfl) ?_ | refine WL.yld rfl (Yld.neqA 4 rfl rfl rfl (by kernel_rfl) (by kernel_rfl) rfl rfl) ?_ | refine WL.yld rfl (Yld.quoT rfl rfl rfl rfl (by omega) nrmQ) ?_)
    | ((with_reducible refine WL.isN_un ?_); first | refine WL.yld rfl (Yld.pure rfl h2) ?_ | refine WL.yld rfl (Yld.pure rfl nrmQ) ?_)
    | refine WL.yld rfl (Yld.as (Yld.maxI rfl rfl rfl) h1) ?_
    | with_reducible refine WC.block ?_
    | with_reducible refine WC.scope ?_
    | with_reducible refine WC.label ?_
    | with_reducible refine WQ.ngN ?_
    | with_reducible refine WQ.ngR ?_
    | with_reducible refine WQ.ngX ?_
    | with_reducible refine WC.skip ?_
    | with_reducible refine WC.ret ?_
    | with_reducible refine WC.exit ?_
    | with_reducible refine WQ.thenR ?_
    | with_reducible refine WQ.thenX ?_
    | with_reducible refine WQ.blkN ?_
    | with_reducible refine WQ.blkR ?_
    | ((with_reducible refine WQ.blkX ?_ ?_); focus rfl)
    | ((with_reducible refine WQ.blkY ?_ ?_); focus rfl)
    | refine WC.condT rfl ?_
    | refine WC.condF rfl ?_
    | refine WC.condTh rfl gdQ ?_
    | refine WC.condFh rfl gdQ ?_
    | (refine WC.cond rfl (fun hc => ?_) (fun hc => ?_) <;> (try first | (with_reducible replace hc := of_decide_eq_true hc) | (with_reducible replace hc := of_decide_eq_false hc) | (with_reducible replace hc := eqT hc) | (with_reducible replace hc := eqF hc) | (with_reducible replace hc := neT hc) | (with_reducible replace hc := neF hc) | (with_reducible replace hc := noT hc) | (with_reducible replace hc := noF hc)) <;> (try (exfalso; omega))))

  exact WQ.body (Reads.tmp rfl rfl) fun w' hw' => ⟨rfl, hw'.ext.below⟩
theorem blen_q (b : Nat) (p : Option Addr) (A : Option Addr) (m c : Nat) (w : World) (hI : InpAt w b 0 [.pointer p, .slice A m c]) :
    Calls Try.prog 60 #[.pointer (some ⟨b, 0, none⟩)] w fun e w' => e = .returned (.int .i64 m) ∧ Below w.heap.size w w' := by
  refine enterW (fun _ => False) _ Try.func60 rfl (by simp only [Try.ntmps60, List.length_cons, List.length_nil, Nat.reduceAdd, Nat.reduceSub]; rfl) ?_
  repeat' (first
    | refine goS ?_
    | ((with_reducible refine WL.isN_load ?_); first | refine WL.yld rfl loadQ ?_)
    | ((with_reducible refine WL.isN_call ?_); first | refine WL.yld rfl lenQ ?_)
    | with_reducible refine WC.block ?_
    | (refine WC.cond rfl (fun hc => ?_) (fun hc => ?_) <;> (try first | (with_reducible replace hc := of_decide_eq_true hc) | (with_reducible replace hc := of_decide_eq_false hc) | (with_reducible replace hc := eqT hc) | (with_reducible replace hc := eqF hc) | (with_reducible replace hc := neT hc) | (with_reducible replace hc := neF hc) | (with_reducible replace hc := noT hc) | (with_reducible replace hc := noF hc)) <;> (try (exfalso; omega))))

  exact WQ.body (Reads.tmp rfl rfl) fun w' hw' => ⟨rfl, hw'.ext.below⟩
theorem indexnil_q (f : Nat) (w : World) :
    Calls Try.prog 72 #[.slice none 0 0, .func (.func f) #[] #[]] w fun e w' => e = .returned (.int .i64 (-1)) ∧ Below w.heap.size w w' := by
  refine enterW (fun _ => False) _ Try.func72 rfl (by simp only [Try.ntmps72, List.length_cons, List.length_nil, Nat.reduceAdd, Nat.reduceSub]; rfl) ?_
  repeat' (first
    | refine goS ?_
    | ((with_reducible refine WL.isN_bin ?_); first | refine WL.yld rfl binQ ?_)
    | ((with_reducible refine WL.isN_load ?_); first | refine WL.yld rfl loadQ ?_)
    | ((with_reducible refine WL.isN_iaddr ?_); first | refine WL.yld rfl iaddrQ ?_)
    | ((with_reducible refine WL.isN_call ?_); first | refine WL.yld rfl lenQ ?_)
    | with_reducible refine WC.block ?_
    | (refine WC.cond rfl (fun hc => ?_) (fun hc => ?_) <;> (try first | (with_reducible replace hc := of_decide_eq_true hc) | (with_reducible replace hc := of_decide_eq_false hc) | (with_reducible replace hc := eqT hc) | (with_reducible replace hc := eqF hc) | (with_reducible replace hc := neT hc) | (with_reducible replace hc := neF hc) | (with_reducible replace hc := noT hc) | (with_reducible replace hc := noF hc)) <;> (try (exfalso; omega))))
  refine WC.loop (fun mm τ H => τ = [(7, .int .i64 0), (8, .int .i64 0)] ∧ H = []) 0 _ _ [] ?_ ?_ ⟨rfl, rfl⟩ ?_
  · exact (by repeat (first | exact Sub.nil | refine Sub.cons rfl ?_ | refine Sub.consE rfl (int_eq (by omega)) ?_))
  · exact ⟨by decide, rfl⟩
  rintro mm τ H ⟨rfl, rfl⟩
  repeat' (first
    | refine goS ?_
    | ((with_reducible refine WL.isN_bin ?_); first | refine WL.yld rfl binQ ?_)
    | ((with_reducible refine WL.isN_load ?_); first | refine WL.yld rfl loadQ ?_)
    | ((with_reducible refine WL.isN_iaddr ?_); first | refine WL.yld rfl iaddrQ ?_)
    | ((with_reducible refine WL.isN_call ?_); first | refine WL.yld rfl lenQ ?_)
    | with_reducible refine WC.block ?_
    | (refine WC.cond rfl (fun hc => ?_) (fun hc => ?_) <;> (try first | (with_reducible replace hc := of_decide_eq_true hc) | (with_reducible replace hc := of_decide_eq_false hc) | (with_reducible replace hc := eqT hc) | (with_reducible replace hc := eqF hc) | (with_reducible replace hc := neT hc) | (with_reducible replace hc := neF hc) | (with_reducible replace hc := noT hc) | (with_reducible replace hc := noF hc)) <;> (try (exfalso; omega))))
  exact WQ.body (Reads.tmp rfl rfl) fun w' hw' => ⟨rfl, hw'.ext.below⟩
theorem containsnil_q (f : Nat) (w : World) :
    Calls Try.prog 55 #[.slice none 0 0, .func (.func f) #[] #[]] w fun e w' => e = .returned (.bool false) ∧ Below w.heap.size w w' := by
  refine enterW (fun _ => False) _ Try.func55 rfl (by simp only [Try.ntmps55, List.length_cons, List.length_nil, Nat.reduceAdd, Nat.reduceSub]; rfl) ?_
  repeat' (first
    | refine goS ?_
    | ((with_reducible refine WL.isN_bin ?_); first | refine WL.yld rfl binQ ?_)
    | ((with_reducible refine WL.isN_call ?_); first | refine WL.step rfl (StepTo.callV (v := .int .i64 (-1)) (us := [.slice none 0 0, .func (.func f) #[] #[]]) rfl rfl rfl rfl rfl (by kernel_rfl) (fun w hw => indexnil_q f w) ?_))
    | with_reducible refine WC.block ?_
    | (refine WC.cond rfl (fun hc => ?_) (fun hc => ?_) <;> (try first | (with_reducible replace hc := of_decide_eq_true hc) | (with_reducible replace hc := of_decide_eq_false hc) | (with_reducible replace hc := eqT hc) | (with_reducible replace hc := eqF hc) | (with_reducible replace hc := neT hc) | (with_reducible replace hc := neF hc) | (with_reducible replace hc := noT hc) | (with_reducible replace hc := noF hc)) <;> (try (exfalso; omega))))
  exact WQ.body (Reads.tmp rfl rfl) fun w' hw' => ⟨rfl, hw'.ext.below⟩
theorem bnil_q (b : Nat) (w : World) (hI : InpAt w b 0 [.pointer none, .slice none 0 0]) :
    Calls Try.prog 61 #[.pointer (some ⟨b, 0, none⟩)] w fun e w' => e = .returned (.string (bs [])) ∧ Below w.heap.size w w' := by
  refine enterW (fun _ => False) _ Try.func61 rfl (by simp only [Try.ntmps61, List.length_cons, List.length_nil, Nat.reduceAdd, Nat.reduceSub]; rfl) ?_
  repeat' (first
    | refine goS ?_
    | ((with_reducible refine WL.isN_load ?_); first | refine WL.yld rfl loadQ ?_)
    | ((with_reducible refine WK.isN_load ?_); first | refine WK.yld rfl loadQ ?_)
    | ((with_reducible refine WL.isN_call ?_); first | refine WL.yld rfl lenQ ?_ | refine WL.yld rfl (Yld.sliceDataNil rfl rfl) ?_ | refine WL.yld rfl (Yld.sliceData rfl rfl (by omega)) ?_)
    | ((with_reducible refine WK.isN_call ?_); first | refine WK.yld rfl lenQ ?_ | refine WK.yld rfl (Yld.sliceDataNil rfl rfl) ?_ | refine WK.yld rfl (Yld.sliceData rfl rfl (by omega)) ?_)
    | refine WK.yld rfl (Yld.sliceDataNil rfl rfl) ?_
    | refine WK.yld rfl (Yld.unsafeNone rfl rfl rfl) ?_
    | with_reducible refine WC.block ?_
    | (refine WC.quiet (i := 1) (by kernel_rfl) (by kernel_rfl) ?_)
    | (refine WC.cond rfl (fun hc => ?_) (fun hc => ?_) <;> (try first | (with_reducible replace hc := of_decide_eq_true hc) | (with_reducible replace hc := of_decide_eq_false hc) | (with_reducible replace hc := eqT hc) | (with_reducible replace hc := eqF hc) | (with_reducible replace hc := neT hc) | (with_reducible replace hc := neF hc) | (with_reducible replace hc := noT hc) | (with_reducible replace hc := noF hc)) <;> (try (exfalso; omega))))

  exact WQ.body (Reads.tmp rfl rfl) fun w' hw' => ⟨rfl, hw'.ext.below⟩
/-- The bytes of no item. -/
theorem tlvnil_q (w : World) : Calls Try.prog 44 #[.slice none 0 0] w fun e w' => e = .returned (.tuple #[.string (bs []), .int .i64 0]) ∧ Below w.heap.size w w' := by
  refine enterW (fun _ => False) _ Try.func44 rfl (by simp only [Try.ntmps44, List.length_cons, List.length_nil, Nat.reduceAdd, Nat.reduceSub]; rfl) ?_
  repeat' (first
    | refine goS ?_
    | ((with_reducible refine WL.isN_bin ?_); first | refine WL.yld rfl binQ ?_)
    | ((with_reducible refine WL.isN_load ?_); first | refine WL.yld rfl loadQ ?_)
    | ((with_reducible refine WL.isN_iaddr ?_); first | refine WL.yld rfl iaddrQ ?_)
    | ((with_reducible refine WL.isN_conv ?_); first | refine WL.yld rfl convQ ?_)
    | ((with_reducible refine WL.isN_call ?_); first | refine WL.step rfl (StepTo.callV (v := .bool false) (us := [.slice none 0 0, .func (.func 56) #[] #[]]) rfl rfl rfl rfl rfl (by kernel_rfl) (fun w hw => containsnil_q _ w) ?_) | refine WL.yld rfl lenQ ?_)
    | ((with_reducible refine WL.isN_alloc ?_); first | refine WL.step rfl (StepTo.allocA rfl rfl rfl rfl (fun _ => ?_)) | refine WL.step rfl (StepTo.alloc1 rfl rfl rfl rfl rfl (fun _ => ?_)))
    | ((with_reducible refine WL.isN_store ?_); first | refine WL.step rfl (StepTo.st1 rfl rfl rfl rfl rfl rfl ?_) | refine WL.step rfl (StepTo.stA rfl rfl rfl rfl rfl rfl rfl ?_) | refine WL.step rfl (StepTo.stR rfl rfl rfl rfl rfl rfl rfl ?_))
    | ((with_reducible refine WL.isN_bslice ?_); first | refine WL.step rfl (StepTo.buildSlice rfl rfl rfl rfl rfl rfl rfl rfl rfl rfl cellsOfQ (fun _ => ?_)))
    | with_reducible refine WC.block ?_
    | (refine WC.cond rfl (fun hc => ?_) (fun hc => ?_) <;> (try first | (with_reducible replace hc := of_decide_eq_true hc) | (with_reducible replace hc := of_decide_eq_false hc) | (with_reducible replace hc := eqT hc) | (with_reducible replace hc := eqF hc) | (with_reducible replace hc := neT hc) | (with_reducible replace hc := neF hc) | (with_reducible replace hc := noT hc) | (with_reducible replace hc := noF hc)) <;> (try (exfalso; omega))))
  rename_i b4
  refine WC.loop (fun mm τ H => τ = [(4, .pointer (some ⟨b4, 0, none⟩)), (11, .int .i64 0), (12, .int .i64 0)] ∧ H = [.box b4 91 [.pointer none, .slice none 0 0]]) 0 _ _ [0] ?_ ?_ ⟨rfl, rfl⟩ ?_
  · exact (by repeat (first | exact Sub.nil | refine Sub.cons rfl ?_ | refine Sub.consE rfl (int_eq (by omega)) ?_))
  · exact ⟨by decide, rfl⟩
  rintro mm τ H ⟨rfl, rfl⟩
  repeat' (first
    | refine goS ?_
    | ((with_reducible refine WL.isN_bin ?_); first | refine WL.yld rfl binQ ?_)
    | ((with_reducible refine WL.isN_load ?_); first | refine WL.yld rfl loadQ ?_)
    | ((with_reducible refine WL.isN_iaddr ?_); first | refine WL.yld rfl iaddrQ ?_)
    | ((with_reducible refine WL.isN_conv ?_); first | refine WL.yld rfl convQ ?_)
    | ((with_reducible refine WL.isN_call ?_); first | refine WL.step rfl (StepTo.callV (v := .int .i64 0) (us := [.pointer (some ⟨_, 0, none⟩)]) rfl rfl rfl rfl rfl (by kernel_rfl) (fun w hw => blen_q _ none none 0 0 w (inp_box hw 0 rfl)) ?_) | refine WL.step rfl (StepTo.callV (v := .string (bs [])) (us := [.pointer (some ⟨_, 0, none⟩)]) rfl rfl rfl rfl rfl (by kernel_rfl) (fun w hw => bnil_q _ w (inp_box hw 0 rfl)) ?_) | refine WL.yld rfl lenQ ?_)
    | ((with_reducible refine WL.isN_alloc ?_); first | refine WL.step rfl (StepTo.allocA rfl rfl rfl rfl (fun _ => ?_)) | refine WL.step rfl (StepTo.alloc1 rfl rfl rfl rfl rfl (fun _ => ?_)))
    | ((with_reducible refine WL.isN_store ?_); first | refine WL.step rfl (StepTo.st1 rfl rfl rfl rfl rfl rfl ?_) | refine WL.step rfl (StepTo.stA rfl rfl rfl rfl rfl rfl rfl ?_) | refine WL.step rfl (StepTo.stR rfl rfl rfl rfl rfl rfl rfl ?_))
    | ((with_reducible refine WL.isN_bslice ?_); first | refine WL.step rfl (StepTo.buildSlice rfl rfl rfl rfl rfl rfl rfl rfl rfl rfl cellsOfQ (fun _ => ?_)))
    | with_reducible refine WC.block ?_
    | (refine WC.cond rfl (fun hc => ?_) (fun hc => ?_) <;> (try first | (with_reducible replace hc := of_decide_eq_true hc) | (with_reducible replace hc := of_decide_eq_false hc) | (with_reducible replace hc := eqT hc) | (with_reducible replace hc := eqF hc) | (with_reducible replace hc := neT hc) | (with_reducible replace hc := neF hc) | (with_reducible replace hc := noT hc) | (with_reducible replace hc := noF hc)) <;> (try (exfalso; omega))))
  exact WQ.body (Reads.tmp2 rfl rfl rfl) fun w' hw' => ⟨rfl, hw'.ext.below⟩
/-- Gaps that stand as they must. -/
def Rising (l : List (Nat × Nat)) : Prop := ∀ i p, l[i]? = some p → 2 ≤ p.1 ∧ p.1 ≤ p.2 ∧ p.2 ≤ 60000 ∧ ∀ q, 0 < i → l[i - 1]? = some q → q.2 + 2 ≤ p.1
theorem rising_q (A : Option Addr) (n k : Nat) (l : List (Nat × Nat)) (hr : Rising l) (w : World) (hL : Lst (pc .u16) 2 w w.heap.size A n (l.map fun p => ((p.1 : Int), (p.2 : Int)))) (hn : n ≤ 100) :
    Calls Try.prog 62 #[.slice A n k] w fun e w' => e = .returned (.bool true) ∧ Below w.heap.size w w' := by
  have hl := hL.len
  rw [List.length_map] at hl
  refine enterW (fun _ => False) _ Try.func62 rfl (by simp only [Try.ntmps62, List.length_cons, List.length_nil, Nat.reduceAdd, Nat.reduceSub]; rfl) ?_
  refine WC.addVw (pc_len .u16) hL ?_
  repeat' (first
    | refine goS ?_
    | ((with_reducible refine WL.isN_bin ?_); first | refine WL.yld rfl binQ ?_)
    | ((with_reducible refine WL.isN_load ?_); first | refine WL.yld rfl loadQ ?_)
    | ((with_reducible refine WL.isN_iaddr ?_); first | refine WL.yld rfl iaddrQ ?_)
    | ((with_reducible refine WL.isN_conv ?_); first | refine WL.yld rfl convQ ?_)
    | ((with_reducible refine WL.isN_call ?_); first | refine WL.yld rfl lenQ ?_)
    | ((with_reducible refine WL.isN_alloc ?_); first | refine WL.step rfl (StepTo.allocA rfl rfl rfl rfl (fun _ => ?_)) | refine WL.step rfl (StepTo.alloc1 rfl rfl rfl rfl rfl (fun _ => ?_)))
    | ((with_reducible refine WL.isN_store ?_); first | refine WL.step rfl (StepTo.st1 rfl rfl rfl rfl rfl rfl ?_) | refine WL.step rfl (StepTo.stA rfl rfl rfl rfl rfl rfl rfl ?_) | refine WL.step rfl (StepTo.stR rfl rfl rfl rfl rfl rfl rfl ?_))
    | with_reducible refine WC.block ?_
    | (refine WC.cond rfl (fun hc => ?_) (fun hc => ?_) <;> (try first | (with_reducible replace hc := of_decide_eq_true hc) | (with_reducible replace hc := of_decide_eq_false hc) | (with_reducible replace hc := eqT hc) | (with_reducible replace hc := eqF hc) | (with_reducible replace hc := neT hc) | (with_reducible replace hc := neF hc) | (with_reducible replace hc := noT hc) | (with_reducible replace hc := noF hc)) <;> (try (exfalso; omega))))
  refine WC.loop (fun mm τ H => ∃ (i : Nat) (la : Int), i ≤ n ∧ mm = n - i ∧ (i = 0 → la = -1) ∧ (∀ q, 0 < i → l[i - 1]? = some q → la = q.2) ∧ τ = [(0, .slice A n k), (3, .int .i64 la), (6, .slice A n k), (7, .int .i64 (n : Nat)), (8, .int .i64 (i : Nat))] ∧
    H = [.vw A n 2 (flat (pc .u16) (l.map fun p => ((p.1 : Int), (p.2 : Int))))]) n _ _ [0] ?_ ?_ ⟨0, -1, by omega, rfl, fun _ => rfl, fun _ h => absurd h (by omega), rfl, rfl⟩ ?_
  · exact (by repeat (first | exact Sub.nil | refine Sub.cons rfl ?_ | refine Sub.consE rfl (int_eq (by omega)) ?_))
  · exact ⟨by decide, rfl⟩
  rintro mm τ H ⟨i, la, hi, rfl, hla0, hla, rfl, rfl⟩
  by_cases hin : i < n
  · obtain ⟨p, hp⟩ : ∃ p, l[i]? = some p := ⟨_, List.getElem?_eq_getElem (by omega)⟩
    have hpe : (l.map fun p => ((p.1 : Int), (p.2 : Int)))[i]? = some ((p.1 : Int), (p.2 : Int)) := by rw [List.getElem?_map, hp]; rfl
    have hpy : PartAt (flat (pc .u16) (l.map fun p => ((p.1 : Int), (p.2 : Int)))) (i * 2) [.int .u16 (p.1 : Nat), .int .u16 (p.2 : Nat)] := PartAt.flat (pc_len .u16) hpe
    obtain ⟨h1, h2, h3, h4⟩ := hr i p hp
    have hlo : -1 ≤ la ∧ la + 2 ≤ p.1 := by
      by_cases h0 : i = 0
      · have := hla0 h0; omega
      · obtain ⟨q, hq⟩ : ∃ q, l[i - 1]? = some q := ⟨_, List.getElem?_eq_getElem (by omega)⟩
        have e1 := hla q (by omega) hq
        have e2 := h4 q (by omega) hq
        omega
    have hg1 : decide ((p.1 : Int) < la + 2) = false := decide_eq_false (by omega)
    have hg2 : ((p.1 : Int) == 0) = false := beqF (by omega)
    have hg3 : decide ((p.2 : Int) < (p.1 : Int)) = false := decide_eq_false (by omega)
    have hnx : ∀ q, 0 < i + 1 → l[i + 1 - 1]? = some q → (p.2 : Int) = q.2 := fun q _ hq => by
      rw [show i + 1 - 1 = i by omega, hp] at hq
      injection hq with hq
      rw [hq]
    clear hr h4 hla hla0
    refine WC.vwAt 0 rfl (by omega) fun b o hA => ?_
    subst hA
    repeat' (first
    | refine goS ?_
    | ((with_reducible refine WL.isN_bin ?_); first | refine WL.yld rfl binQ ?_)
    | ((with_reducible refine WL.isN_load ?_); first | refine WL.yld rfl loadQ ?_)
    | ((with_reducible refine WL.isN_iaddr ?_); first | refine WL.yld rfl (Yld.indexS i rfl rfl rfl rfl rfl rfl hin) ?_ | refine WL.yld rfl iaddrQ ?_)
    | ((with_reducible refine WL.isN_conv ?_); first | refine WL.yld rfl convQ ?_)
    | ((with_reducible refine WL.isN_call ?_); first | refine WL.yld rfl lenQ ?_)
    | ((with_reducible refine WL.isN_alloc ?_); first | refine WL.step rfl (StepTo.allocA rfl rfl rfl rfl (fun _ => ?_)) | refine WL.step rfl (StepTo.alloc1 rfl rfl rfl rfl rfl (fun _ => ?_)))
    | ((with_reducible refine WL.isN_store ?_); first | refine WL.step rfl (StepTo.st1 rfl rfl rfl rfl rfl rfl ?_) | refine WL.step rfl (StepTo.stA rfl rfl rfl rfl rfl rfl rfl ?_) | refine WL.step rfl (StepTo.stR rfl rfl rfl rfl rfl rfl rfl ?_))
    | with_reducible refine WC.block ?_
    | (refine WC.cond rfl (fun hc => ?_) (fun hc => ?_) <;> (try first | (with_reducible replace hc := of_decide_eq_true hc) | (with_reducible replace hc := of_decide_eq_false hc) | (with_reducible replace hc := eqT hc) | (with_reducible replace hc := eqF hc) | (with_reducible replace hc := neT hc) | (with_reducible replace hc := neF hc) | (with_reducible replace hc := noT hc) | (with_reducible replace hc := noF hc)) <;> (try (exfalso; omega))))
    exact WQ.rnd (n - (i + 1)) _ _ [1] (by repeat (first | exact Sub.nil | refine Sub.cons rfl ?_ | refine Sub.consE rfl (int_eq (by omega)) ?_)) ⟨by decide, rfl⟩ (by omega) ⟨i + 1, p.2, by omega, rfl, fun h => absurd h (by omega), hnx, rfl, rfl⟩
  clear hr hla hla0
  repeat' (first
    | refine goS ?_
    | ((with_reducible refine WL.isN_bin ?_); first | refine WL.yld rfl binQ ?_)
    | ((with_reducible refine WL.isN_load ?_); first | refine WL.yld rfl loadQ ?_)
    | ((with_reducible refine WL.isN_iaddr ?_); first | refine WL.yld rfl iaddrQ ?_)
    | ((with_reducible refine WL.isN_conv ?_); first | refine WL.yld rfl convQ ?_)
    | ((with_reducible refine WL.isN_call ?_); first | refine WL.yld rfl lenQ ?_)
    | ((with_reducible refine WL.isN_alloc ?_); first | refine WL.step rfl (StepTo.allocA rfl rfl rfl rfl (fun _ => ?_)) | refine WL.step rfl (StepTo.alloc1 rfl rfl rfl rfl rfl (fun _ => ?_)))
    | ((with_reducible refine WL.isN_store ?_); first | refine WL.step rfl (StepTo.st1 rfl rfl rfl rfl rfl rfl ?_) | refine WL.step rfl (StepTo.stA rfl rfl rfl rfl rfl rfl rfl ?_) | refine WL.step rfl (StepTo.stR rfl rfl rfl rfl rfl rfl rfl ?_))
    | with_reducible refine WC.block ?_
    | (refine WC.cond rfl (fun hc => ?_) (fun hc => ?_) <;> (try first | (with_reducible replace hc := of_decide_eq_true hc) | (with_reducible replace hc := of_decide_eq_false hc) | (with_reducible replace hc := eqT hc) | (with_reducible replace hc := eqF hc) | (with_reducible replace hc := neT hc) | (with_reducible replace hc := neF hc) | (with_reducible replace hc := noT hc) | (with_reducible replace hc := noF hc)) <;> (try (exfalso; omega))))
  exact WQ.body (Reads.tmp rfl rfl) fun w' hw' => ⟨by rw [decide_eq_true (show (n : Int) ≤ 100 by omega)], hw'.ext.below⟩
end Go.Proofs.Ythbhjnmkbmmcnaa
