/- Slices of slices, and slices that are nil or empty, over symbolic states. Of whatever program. -/
import Derived.Test.YthbhjnmkbmmcnaaMk
namespace Go.Proofs.Ythbhjnmkbmmcnaa
open Go.RowKit Go.IntWalk
set_option linter.unusedVariables false
set_option linter.unusedSectionVars false

/-- Where a slice begins that is cut at the front. -/
def cutA (A : Option Addr) (cap l k : Nat) : Option Addr := if cap = l then A else A.map (·.add (l * k))

section
variable {P : Program} {w0 : World} {D : Nat → Prop} {n : Nat} [Dfr] {Q : Exit → Act → World → Prop} {τ : Tm} {H : List Item} {ops : Array Oper} {o : Oper} {l : List Oper} {v v' : Value} {K : Tm → List Item → Prop}
/-- s[:h] -/
theorem Yld.sliceHi {T e h : Nat} {x hi : Operand} {A : Option Addr} {len cap : Nat} {kk : IntKind} {i : Int} (ho : o.op = .slice T x none (some hi) none) (hx : evl τ x = some (.slice A len cap)) (hh : evl τ hi = some (.int kk i)) (ht : P.underlying T = some (.slice e)) {m : Nat} (hs : szOf P e = some m)
    (hk : i = (h : Int)) (hle : h ≤ cap) : Yld P w0 D n o τ H (.slice A h cap) := ⟨fun a w hA hw => by
  have hs := szOf_eq hs
  subst hk
  simp only [execOp, ho, hA.ev hx, Option.map_some, Option.map_none, hA.ev hh]
  have h1 : (0 : Int) ≤ (h : Int) := by omega
  have h3 : A.map (fun a : Addr => a.add 0) = A := by cases A <;> simp [Addr.add]
  simp [Instr.sliceAt, Instr.slice, Instr.sliceBounds, Instr.sliceBound, asIntOf, run_underlying ht, run_sizeOf hs, h1, h3, hle]⟩
/-- s[l:] -/
theorem Yld.sliceLo {T e lo : Nat} {x lx : Operand} {A : Option Addr} {len cap : Nat} {kk : IntKind} {i : Int} (ho : o.op = .slice T x (some lx) none none) (hx : evl τ x = some (.slice A len cap)) (hh : evl τ lx = some (.int kk i)) (ht : P.underlying T = some (.slice e)) {m : Nat} (hs : szOf P e = some m)
    (hk : i = (lo : Int)) (hle : lo ≤ len) : Yld P w0 D n o τ H (.slice (cutA A cap lo m) (len - lo) (cap - lo)) := ⟨fun a w hA hw => by
  have hs := szOf_eq hs
  subst hk
  simp only [execOp, ho, hA.ev hx, Option.map_some, Option.map_none, hA.ev hh]
  have h1 : (0 : Int) ≤ (lo : Int) := by omega
  simp [Instr.sliceAt, Instr.slice, Instr.sliceBounds, Instr.sliceBound, asIntOf, run_underlying ht, run_sizeOf hs, h1, cutA, hle]⟩
theorem Yld.eqlNil {T e u : Nat} {x y : Operand} {A : Option Addr} {len cap : Nat} (ho : o.op = .binOp .eql T x y u) (hx : evl τ x = some (.slice A len cap)) (hy : evl τ y = some (.slice none 0 0)) (ht : P.underlying T = some (.slice e)) : Yld P w0 D n o τ H (.bool A.isNone) := ⟨fun a w hA hw => by
  simp only [execOp, ho, hA.ev hx, hA.ev hy]
  simp [eqGuard, Lib.run_eql_slice_nil w T e A len cap 0 0 ht]⟩
/-- A part of a row that is read alone. -/
theorem Sat.vwPart {w : World} {i : Nat} {A : Option Addr} {m k : Nat} {xs : List Value} (hw : Sat w0 D H w) (hi : H[i]? = some (.vw A m k xs)) (lo len cap : Nat) (hl : lo + len ≤ m) (hm : m ≤ cap) : Sat w0 D (.vw (cutA A cap lo k) len k ((xs.drop (lo * k)).take (len * k)) :: H) w := by
  have hv0 : (Item.vw A m k xs).holds w := hw.holds _ (List.mem_of_getElem? hi)
  obtain ⟨h1, h2, h3⟩ := hv0
  have hv : (Item.vw (cutA A cap lo k) len k ((xs.drop (lo * k)).take (len * k))).holds w := by
    refine ⟨?_, by omega, fun h0 => ?_⟩
    · rw [List.length_take, List.length_drop, h1]
      have := Nat.mul_le_mul_right k hl
      rw [Nat.add_mul] at this
      omega
    · obtain ⟨b, off, rfl, hb, hc⟩ := h3 (by omega)
      have hne : ¬ (cap = lo) := by omega
      refine ⟨b, off + lo * k, by simp [cutA, hne, Addr.add], hb, fun j u hu => ?_⟩
      have hu' : xs[lo * k + j]? = some u := by
        rw [List.getElem?_take] at hu
        split at hu
        · rwa [List.getElem?_drop] at hu
        · cases hu
      have := hc _ _ hu'
      rwa [← Nat.add_assoc] at this
  have hblk : ∀ b, (Item.vw (cutA A cap lo k) len k ((xs.drop (lo * k)).take (len * k))).blk = some b → (Item.vw A m k xs).blk = some b := fun b hb => by
    cases len with
    | zero => simp [Item.blk] at hb
    | succ len =>
      obtain ⟨m', rfl⟩ : ∃ m', m = m' + 1 := ⟨m - 1, by omega⟩
      obtain ⟨b0, off0, e0, _⟩ := h3 (by omega)
      subst e0
      simp only [Item.blk] at hb ⊢
      rw [← hb]
      unfold cutA
      split
      · rfl
      · simp [addr_add]
  refine ⟨hw.ext, fun it hit => ?_, fun it hit hmm b hb => ?_, List.Pairwise.cons (fun y hy => ?_) hw.apart⟩
  · rcases List.mem_cons.1 hit with rfl | hit
    · exact hv
    · exact hw.holds it hit
  · rcases List.mem_cons.1 hit with rfl | hit
    · cases hmm
    · exact hw.own it hit hmm b hb
  · obtain ⟨j, hj, rfl⟩ := List.getElem_of_mem hy
    by_cases hij : i = j
    · subst hij
      obtain ⟨_, e⟩ := List.getElem?_eq_some_iff.1 hi
      rw [e]
      exact .inl ⟨rfl, rfl⟩
    · rcases hw.pair hi (List.getElem?_eq_getElem hj) hij with h | h
      · exact .inl ⟨rfl, h.2⟩
      · exact .inr fun b hb => h b (hblk b hb)
theorem WC.vwPart {c : Code} (i : Nat) {A : Option Addr} {m k : Nat} {xs : List Value} (hi : H[i]? = some (.vw A m k xs)) (lo len cap : Nat) (hl : lo + len ≤ m) (hm : m ≤ cap) (h : WC P w0 D n c Q τ (.vw (cutA A cap lo k) len k ((xs.drop (lo * k)).take (len * k)) :: H)) : WC P w0 D n c Q τ H :=
  ⟨fun a w ha hw => h.go a w ha (hw.vwPart hi lo len cap hl hm)⟩
theorem WL.vwPart (i : Nat) {A : Option Addr} {m k : Nat} {xs : List Value} (hi : H[i]? = some (.vw A m k xs)) (lo len cap : Nat) (hl : lo + len ≤ m) (hm : m ≤ cap) (h : WL P w0 D n ops Q l τ (.vw (cutA A cap lo k) len k ((xs.drop (lo * k)).take (len * k)) :: H)) : WL P w0 D n ops Q l τ H :=
  ⟨fun a w ha hw => h.go a w ha (hw.vwPart hi lo len cap hl hm)⟩
/-- A row is written out otherwise. -/
theorem set_same {α : Type} (l : List α) (t : Nat) (a : α) (h : l[t]? = some a) : l.set t a = l := by
  obtain ⟨ht, rfl⟩ := List.getElem?_eq_some_iff.1 h
  simp
theorem WC.rowEq {c : Code} (i : Nat) {A : Option Addr} {m cap t k : Nat} {xs : List Value} (ys : List Value) (hi : H[i]? = some (.row A m cap t k xs)) (e : xs = ys)
    (h : WC P w0 D n c Q τ (H.set i (.row A m cap t k ys))) : WC P w0 D n c Q τ H := by
  subst e
  rwa [set_same H i _ hi] at h
theorem WC.vwEq {c : Code} (i : Nat) {A : Option Addr} {m k : Nat} {xs : List Value} (ys : List Value) (hi : H[i]? = some (.vw A m k xs)) (e : xs = ys)
    (h : WC P w0 D n c Q τ (H.set i (.vw A m k ys))) : WC P w0 D n c Q τ H := by
  subst e
  rwa [set_same H i _ hi] at h
theorem WL.rowEq (i : Nat) {A : Option Addr} {m cap t k : Nat} {xs : List Value} (ys : List Value) (hi : H[i]? = some (.row A m cap t k xs)) (e : xs = ys)
    (h : WL P w0 D n ops Q l τ (H.set i (.row A m cap t k ys))) : WL P w0 D n ops Q l τ H := by
  subst e
  rwa [set_same H i _ hi] at h
theorem WC.boxVw {c : Code} (i n' k : Nat) {b t : Nat} {cs : List Value} (hi : H[i]? = some (.box b t cs)) (hl : cs.length = n' * k) (hn : n' ≤ 4611686018427387904) (h : WC P w0 D n c Q τ (H.set i (.vw (some ⟨b, 0, none⟩) n' k cs))) : WC P w0 D n c Q τ H :=
  ⟨fun a w ha hw => h.go a w ha (hw.boxVw i hi hl hn)⟩
/-- A slice of nothing. -/
theorem StepTo.buildNone {t e m d : Nat} (ho : o.op = .buildSlice t 0 #[]) (hdst : o.dst = some d) (hd : Nat.blt d n = true) (ht : P.underlying t = some (.slice e)) (hs : (P.info? e).map (·.size) = some m)
    (hK : ∀ b, K ((d, .slice (some ⟨b, 0, none⟩) 0 0) :: τ) (.row (some ⟨b, 0, none⟩) 0 0 e m [] :: H)) : StepTo P w0 D n o τ H K :=
  ⟨fun Kw Q hk a w ha hw => by
    have hr : (execOp a.eval o).run P w = .ok (.value (.slice (some ⟨w.heap.size, 0, none⟩) 0 0)) (w.alloc (.cells (#[] : Array Value) e)) := by
      have hsz := run_sizeOf hs w
      simp only [execOp, ho]
      have h0 : ∀ f : Nat → Value, Array.map f (Array.range 0) = #[] := fun f => by
        apply Array.ext
        · simp
        · intro i h1 h2
          simp at h2
      simp [Instr.buildSlice, run_underlying ht, hsz, Instr.fill, newRow, h0]
    unfold Oper.wp
    rw [hr, Oper.upon_value, hdst]
    exact hk _ _ (hK w.heap.size) _ _ (ha.put (some d) _ hd) (hw.allocRow e m 0 [] (by simp) (by simp [maxLen]))⟩
/-- 'append', bounded by bytes. -/
theorem StepTo.appendB {x s : Operand} {t e k m c q cq b off by_ d : Nat} {A : Option Addr} {xs news : List Value} (i : Nat) (ho : o.op = .call { callee := .builtin .append, args := #[s, x], argTypes := #[t, t] }) (hdst : o.dst = some d) (hd : Nat.blt d n = true)
    (hs : evl τ s = some (.slice A m c)) (hi : H[i]? = some (.row A m c e k xs)) (hx : evl τ x = some (.slice (some ⟨b, off, none⟩) q cq)) (ht : P.underlying t = some (.slice e)) (hk : (P.info? e).map (·.size) = some k) (hb : (P.info? e).map (·.bytes) = some by_)
    (hz : ((P.info? e).bind (·.zero)).map (·.cells.size) = some k) (hk0 : Nat.blt 0 k = true) (hn : CellsAt w0 D H b off news) (hl : news.length = q * k) (h1 : ∀ u ∈ news, u.oneCell' = true)
    (hm : m + q ≤ 4611686018427387904) (hby : (m + q) * by_ ≤ 140737488355328)
    (hK : ∀ A' c', ∃ H2, SetAt H i (.row A' (m + q) c' e k (xs ++ news)) H2 ∧ K ((d, .slice A' (m + q) c') :: τ) H2) : StepTo P w0 D n o τ H K :=
  ⟨fun Kw Q hk' a w ha hw => by
    obtain ⟨ti, hti, hsz, hbz, z, hzz, hzc⟩ : ∃ ti, P.info? e = some ti ∧ ti.size = k ∧ ti.bytes = by_ ∧ ∃ z, ti.zero = some z ∧ z.cells.size = k := by
      cases hh : P.info? e with
      | none => rw [hh] at hk; cases hk
      | some ti =>
        rw [hh] at hk hb hz
        simp only [Option.map_some, Option.some.injEq, Option.bind_some] at hk hb hz
        cases hzz : ti.zero with
        | none => rw [hzz] at hz; cases hz
        | some z =>
          rw [hzz] at hz
          exact ⟨ti, rfl, hk, hb, z, hzz, by simpa using hz⟩
    have hrow := hw.holds _ (List.mem_of_getElem? hi)
    obtain ⟨v', w', hr, hown, hgr, _, hat⟩ := run_append_own_at (P := P) w 0 t o.type e ti z k by_ ht hti hzz hsz hbz hzc (by simpa [Nat.blt, Nat.succ_le_iff] using hk0) (.slice A m c) m xs hrow ⟨b, off, none⟩ q cq news hl
      (fun j u hu => by rw [addr_add]; exact hn w hw j u hu) h1 (by simp only [maxLen]; omega) hby (Nat.zero_le _)
    obtain ⟨A', c', rfl⟩ := own_shape hown
    have hrun : (execOp a.eval o).run P w = .ok (.value (.slice A' (m + q) c')) w' := by
      simp [execOp, ho, resolve, invoke, builtin, ha.ev hs, ha.ev hx, hr]
    have hob : ∀ (B : Option Addr) (l c : Nat), (Value.slice B l c).ownBlock = B.map (·.block) := fun B l c => by cases B <;> rfl
    rw [hob] at hgr hat
    rw [hob] at hat
    unfold Oper.wp
    rw [hrun]
    rw [Oper.upon_value, hdst]
    obtain ⟨H2, hH, hK⟩ := hK A' c'
    refine hk' _ _ hK _ _ (ha.put (some d) _ hd) ?_
    rw [← hH.eq]
    exact hw.turn hi rfl (fun b' hb' => by
        simp only [Item.blk] at hb' ⊢
        rcases hat with h | h
        · exact .inl (h ▸ hb')
        · rw [h] at hb'
          injection hb' with hb'
          exact .inr (by omega)) hown
      (fun k hk hne => hgr.block k hk (fun e => hne (by rw [e]; rfl))) hgr.size hgr.os hgr.tape hgr.output⟩
theorem WL.skipU {d j : Nat} {op : Op} {ty : TypeId} {pos : String} {after : Array Edge} {want : Bool} {jt : Tmp} {oj : Oper} (hd : Nat.blt d n = true) (hj : ops[j]? = some oj) (hjd : oj.dst = some jt) (hb : look τ jt = some undef)
    (hK : WL P w0 D n ops Q l ((d, undef) :: τ) H) : WL P w0 D n ops Q (⟨some d, op, ty, pos, after, some (j, want)⟩ :: l) τ H :=
  ⟨fun a w ha hw' => by
    unfold wpList
    have hy : yielded ops a.tmps j = none := by
      simp [yielded, hj, hjd, ha.at_ jt _ hb, undef]
    rw [if_neg (by simp [Region.wanted, hy])]
    exact hK.go _ w (ha.put (some d) undef hd) hw'⟩
theorem WK.skipU {d j : Nat} {op : Op} {ty : TypeId} {pos : String} {after : Array Edge} {want : Bool} {jt : Tmp} {oj : Oper} (hd : Nat.blt d n = true) (hj : ops[j]? = some oj) (hjd : oj.dst = some jt) (hb : look τ jt = some undef)
    (hK : WK P w0 D n ops H Q l ((d, undef) :: τ)) : WK P w0 D n ops H Q (⟨some d, op, ty, pos, after, some (j, want)⟩ :: l) τ :=
  ⟨fun a ha => by
    unfold wpQuiet
    have hy : yielded ops a.tmps j = none := by simp [yielded, hj, hjd, ha.at_ jt _ hb, undef]
    rw [if_neg (by simp [Region.wanted, hy])]
    exact hK.go _ (ha.put (some d) undef hd)⟩
/-- 'append' of a few cells, the row written out anew. -/
theorem StepTo.appendTo {x s : Operand} {t e k m c q cq b off by_ d : Nat} {A : Option Addr} {xs news : List Value} (i : Nat) (ys : List Value) (ho : o.op = .call { callee := .builtin .append, args := #[s, x], argTypes := #[t, t] }) (hdst : o.dst = some d) (hd : Nat.blt d n = true)
    (hs : evl τ s = some (.slice A m c)) (hi : H[i]? = some (.row A m c e k xs)) (hx : evl τ x = some (.slice (some ⟨b, off, none⟩) q cq)) (ht : P.underlying t = some (.slice e)) (hk : (P.info? e).map (·.size) = some k) (hb : (P.info? e).map (·.bytes) = some by_)
    (hz : ((P.info? e).bind (·.zero)).map (·.cells.size) = some k) (hk0 : Nat.blt 0 k = true) (hbb : Nat.ble by_ 256 = true) (hn : CellsAt w0 D H b off news) (hl : news.length = q * k) (h1 : news.all Value.oneCell' = true)
    (hm : m + q ≤ 549755813888) (hy : xs ++ news = ys)
    (hK : ∀ A' c', ∃ H2, SetAt H i (.row A' (m + q) c' e k ys) H2 ∧ K ((d, .slice A' (m + q) c') :: τ) H2) : StepTo P w0 D n o τ H K := by
  subst hy
  exact StepTo.append i ho hdst hd hs hi hx ht hk hb hz hk0 hbb hn hl h1 hm hK
omit [Dfr] in
/-- The blocks of some items. -/
def Bs (H : List Item) (b : Nat) : Prop := ∃ it ∈ H, it.blk = some b
theorem Sat.alone {w : World} {HI : List Item} {idx : List Nat} (hw : Sat w0 D H w) (hp : Pick idx H HI) : Sat w (Bs HI) HI w :=
  ⟨Ext.refl, (hw.pick hp).holds, fun it hit _ b hb => .inr ⟨it, hit, hb⟩, (hw.pick hp).apart⟩
/-- A call that is handed some items to write. -/
theorem StepTo.callP {F : Operand} {args : Array Operand} {tys : Array TypeId} {vs us : List Value} {f : FuncId} {R : Value → List Item → Prop} (idx rest : List Nat) {HI : List Item} (hI : Pick idx H HI) (hm : HI.all Item.mine = true) (hr : Pick rest H (sel H rest)) (hdis : idx.all (fun i => !rest.contains i) = true)
    (ho : o.op = .call { callee := .value F, args := args, argTypes := tys }) {d : Nat} (hdst : o.dst = some d) (hd : Nat.blt d n = true)
    (ha : evls τ args.toList = some vs) (hF : funV vs (evl τ F) = some (f, us)) (hB : callsB P f = true)
    (h : ∀ w, Sat w0 D H w → Sat w (Bs HI) HI w → Calls P f us.toArray w fun e w' => ∃ v N, e = .returned v ∧ R v N ∧ Mod (Bs HI) N w w') (hK : ∀ v N, R v N → K ((d, v) :: τ) (N ++ sel H rest)) : StepTo P w0 D n o τ H K :=
  StepTo.callM (Bs HI) rest hr (fun b ⟨it, hit, hb⟩ => by
    obtain ⟨j, hj, rfl⟩ := List.getElem_of_mem hit
    have hlen : idx.length = HI.length := by simpa using congrArg List.length hI.2
    have hij : H[idx[j]'(by omega)]? = some HI[j] := by
      have := congrArg (fun l => l[j]?) hI.2
      simp only [List.getElem?_map] at this
      rw [List.getElem?_eq_getElem (by omega), List.getElem?_eq_getElem hj] at this
      simpa using this
    refine ⟨idx[j]'(by omega), HI[j], ?_, hij, ?_, hb⟩
    · have := List.all_eq_true.1 hdis _ (List.getElem_mem (l := idx) (n := j) (by omega))
      simpa using this
    · exact List.all_eq_true.1 hm _ hit) ho hdst hd ha hF hB (fun w hw => h w hw (hw.alone hI)) hK
end
end Go.Proofs.Ythbhjnmkbmmcnaa
