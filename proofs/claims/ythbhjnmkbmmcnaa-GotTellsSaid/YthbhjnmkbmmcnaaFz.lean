/- Rows whose head may be frozen, and what strings.Builder does with its buffer, over symbolic states. Of whatever program. -/
import Derived.Test.YthbhjnmkbmmcnaaStr
import Derived.Test.YthbhjnmkbmmcnaaRw
import Derived.Lib.UnsafeStr
import Derived.Laws.Externs
import Derived.Laws.Pointers
namespace Go.Proofs.Ythbhjnmkbmmcnaa
open Go.RowKit Go.IntWalk Go.Lib
set_option linter.unusedVariables false
set_option linter.unusedSectionVars false

theorem strCells_bs (l : List UInt8) : strCells (bs l) = l.map bv := by rw [strCells_eq]; rfl
theorem ownBlock_slice (B : Option Addr) (l c : Nat) : (Value.slice B l c).ownBlock = B.map (·.block) := by cases B <;> rfl
theorem ownF_shape {w : World} {base e k n : Nat} {v : Value} {xs : List Value} (h : w.ownsRowF base e k v n xs) : ∃ A c, v = .slice A n c := by
  rcases h.2 with ⟨rfl, rfl⟩ | ⟨g, cap, cur, fz, rfl, _⟩
  · exact ⟨none, 0, rfl⟩
  · exact ⟨_, _, rfl⟩
section
variable {P : Program} {w : World} {t u ty e : TypeId} {i : TypeInfo} {A : Option Addr} {n c : Nat} {xs : List Value}
/-- What appending a text to a row of bytes yields, and where it lies. -/
theorem append_strF (ht : P.underlying t = some (.slice e)) (hu : P.underlying u = some .string) (hi : P.info? e = some i) (hz : i.zero = some (.int .u8 0)) (hsize : i.size = 1) (hby : i.bytes = 1)
    (hown : w.ownsRowF 0 e 1 (.slice A n c) n xs) (s : ByteArray) (hb : n + s.size ≤ 140737488355328) :
    ∃ A' c' w', (Builtin.append_ #[t, u] ty #[.slice A n c, .string s]).run P w = .ok (.slice A' (n + s.size) c') w' ∧ w'.ownsRowF 0 e 1 (.slice A' (n + s.size) c') (n + s.size) (xs ++ strCells s) ∧ w.grownBy w' (A.map (·.block)) ∧
      (∀ b, A'.map (·.block) = some b → A.map (·.block) = some b ∨ w.heap.size ≤ b) ∧ ((n = 0 → A = none) → n + s.size = 0 → A' = none) := by
  have h63 : n + s.size ≤ maxLen := by simp only [maxLen]; omega
  rcases hown.2 with ⟨hv, hn0⟩ | ⟨g, cap, cur, fz, hv, hbg, hg, hfz, hnc, hcm, hcs, htake⟩
  · have hown' : w.ownsRowF w.heap.size e 1 (.slice A n c) n xs := ⟨hown.1, .inl ⟨hv, hn0⟩⟩
    obtain ⟨v', w', r1, r2, r3, r4⟩ := run_append_own_stringF (P := P) w w.heap.size t u ty e i ht hu hi hz hsize hby _ n xs hown' s h63 hb (Nat.le_refl _)
    obtain ⟨A', c', rfl⟩ := ownF_shape r2
    refine ⟨A', c', w', r1, ⟨r2.1, ?_⟩, by rw [ownBlock_slice] at r3; exact r3, fun b hb => .inr ?_, fun _ h0 => ?_⟩
    · rcases r2.2 with h | ⟨g, cap, cur, fz, h1, h2, h3⟩
      · exact .inl h
      · exact .inr ⟨g, cap, cur, fz, h1, Nat.zero_le _, h3⟩
    · exact (r2.lt b (by rw [ownBlock_slice]; exact hb)).1
    · have := r4.2 ⟨hv, by omega⟩
      injection this
  · obtain ⟨v', w', r1, r2, r3, r4⟩ := run_append_own_stringF (P := P) w 0 t u ty e i ht hu hi hz hsize hby _ n xs hown s h63 hb (Nat.zero_le _)
    obtain ⟨A', c', rfl⟩ := ownF_shape r2
    have hA : A = some ⟨g, 0, none⟩ := by injection hv
    have hc : c = cap := by injection hv
    subst hA hc
    refine ⟨A', c', w', r1, r2, by rw [ownBlock_slice] at r3; exact r3, fun b2 hb' => ?_, fun h h0 => absurd (h (by omega)) (by simp)⟩
    by_cases hroom : n + s.size ≤ c
    · have hr := run_append_room_stringF (P := P) w t u ty e i ht hu hi hsize g n c cur fz hg (by simpa using hfz) s hroom (by rw [hcs]; omega)
      rw [hr] at r1
      injection r1 with e1 e2
      injection e1 with e3
      exact .inl (e3 ▸ hb')
    · have holds : ∀ j u, xs[j]? = some u → w.cell? ((⟨g, 0, none⟩ : Addr).add j) = some u := hown.cells (g := g) rfl
      have hr := run_append_grow_string (P := P) w t u ty e i (.int .u8 0) ht hu hi hz ⟨g, 0, none⟩ n c xs (by rw [hsize]; exact hown.1) holds s (by omega) (by omega) (by rw [hby]; exact growslice_fits (by omega) (by omega))
      rw [hr] at r1
      injection r1 with e1 e2
      injection e1 with e3
      rw [← e3] at hb'
      simp only [Option.map_some, Option.some.injEq] at hb'
      exact .inr (by omega)
/-- .. and appending bytes. -/
theorem append_ownF (ht : P.underlying t = some (.slice e)) (hi : P.info? e = some i) {z : Value} (hz : i.zero = some z) (hsize : i.size = 1) (hby : i.bytes = 1) (hzs : z.cells.size = 1)
    (hown : w.ownsRowF 0 e 1 (.slice A n c) n xs) {b off m cq : Nat} {news : List Value} (hl : news.length = m) (hnews : ∀ j u, news[j]? = some u → w.cell? ⟨b, off + j, none⟩ = some u) (h1 : ∀ u ∈ news, u.oneCell' = true) (hb : n + m ≤ 140737488355328) :
    ∃ A' c' w', (Builtin.append_ #[t, t] ty #[.slice A n c, .slice (some ⟨b, off, none⟩) m cq]).run P w = .ok (.slice A' (n + m) c') w' ∧ w'.ownsRowF 0 e 1 (.slice A' (n + m) c') (n + m) (xs ++ news) ∧ w.grownBy w' (A.map (·.block)) ∧
      (∀ b, A'.map (·.block) = some b → A.map (·.block) = some b ∨ w.heap.size ≤ b) ∧ ((n = 0 → A = none) → n + m = 0 → A' = none) := by
  have h63 : n + m ≤ maxLen := by simp only [maxLen]; omega
  have hnews' : ∀ j u, news[j]? = some u → w.cell? ((⟨b, off, none⟩ : Addr).add j) = some u := fun j u hu => by rw [addr_add]; exact hnews j u hu
  have hl1 : news.length = m * 1 := by omega
  rcases hown.2 with ⟨hv, hn0⟩ | ⟨g, cap, cur, fz, hv, hbg, hg, hfz, hnc, hcm, hcs, htake⟩
  · have hown' : w.ownsRowF w.heap.size e 1 (.slice A n c) n xs := ⟨hown.1, .inl ⟨hv, hn0⟩⟩
    obtain ⟨v', w', r1, r2, r3, r4⟩ := run_append_ownF (P := P) w w.heap.size t ty e i z 1 1 ht hi hz hsize hby hzs (by omega) _ n xs hown' ⟨b, off, none⟩ m cq news hl1 hnews' h1 h63 (by omega) (Nat.le_refl _)
    obtain ⟨A', c', rfl⟩ := ownF_shape r2
    refine ⟨A', c', w', r1, ⟨r2.1, ?_⟩, by rw [ownBlock_slice] at r3; exact r3, fun b hb => .inr ?_, fun _ h0 => ?_⟩
    · rcases r2.2 with h | ⟨g, cap, cur, fz, h1, h2, h3⟩
      · exact .inl h
      · exact .inr ⟨g, cap, cur, fz, h1, Nat.zero_le _, h3⟩
    · exact (r2.lt b (by rw [ownBlock_slice]; exact hb)).1
    · have := r4.2 ⟨hv, by omega⟩
      injection this
  · obtain ⟨v', w', r1, r2, r3, r4⟩ := run_append_ownF (P := P) w 0 t ty e i z 1 1 ht hi hz hsize hby hzs (by omega) _ n xs hown ⟨b, off, none⟩ m cq news hl1 hnews' h1 h63 (by omega) (Nat.zero_le _)
    obtain ⟨A', c', rfl⟩ := ownF_shape r2
    have hA : A = some ⟨g, 0, none⟩ := by injection hv
    have hc : c = cap := by injection hv
    subst hA hc
    refine ⟨A', c', w', r1, r2, by rw [ownBlock_slice] at r3; exact r3, fun b2 hb' => ?_, fun h h0 => absurd (h (by omega)) (by simp)⟩
    by_cases hroom : n + m ≤ c
    · have hr := run_append_roomF (P := P) w t ty e i ht hi g n c cur fz hg (by rw [hsize]; exact hfz) ⟨b, off, none⟩ m cq news (by rw [hsize]; exact hl1) hnews' h1 hroom (by rw [hsize, hcs]; omega)
      rw [hr] at r1
      injection r1 with e1 e2
      injection e1 with e3
      exact .inl (e3 ▸ hb')
    · have holds : ∀ j u, xs[j]? = some u → w.cell? ((⟨g, 0, none⟩ : Addr).add j) = some u := hown.cells (g := g) rfl
      have hr := run_append_grow (P := P) w t ty e i z ht hi hz ⟨g, 0, none⟩ n c xs (by rw [hsize]; exact hown.1) holds ⟨b, off, none⟩ m cq news (by rw [hsize]; exact hl1) hnews' (by omega) (by omega) (growslice_fits (by omega) (by rw [hby]; omega))
      rw [hr] at r1
      injection r1 with e1 e2
      injection e1 with e3
      rw [← e3] at hb'
      simp only [Option.map_some, Option.some.injEq] at hb'
      exact .inr (by omega)
end
section
variable {P : Program} {w0 : World} {D : Nat → Prop} {n : Nat} [Dfr] {τ : Tm} {H : List Item} {o : Oper} {K : Tm → List Item → Prop}
theorem info_u8 {e : TypeId} {z : Value} (h : (P.info? e).map (fun i => (i.size, i.bytes, i.zero)) = some (1, 1, some z)) : ∃ i, P.info? e = some i ∧ i.size = 1 ∧ i.bytes = 1 ∧ i.zero = some z := by
  cases hh : P.info? e with
  | none => rw [hh] at h; cases h
  | some i =>
    rw [hh] at h
    simp only [Option.map_some, Option.some.injEq, Prod.mk.injEq] at h
    exact ⟨i, rfl, h.1, h.2.1, h.2.2⟩
/-- append(b, s...): a text behind a row of bytes. -/
theorem StepTo.appendStr {x s : Operand} {t u e m c d : Nat} {A : Option Addr} {xs : List Value} {l : List UInt8} (i : Nat) (ho : o.op = .call { callee := .builtin .append, args := #[s, x], argTypes := #[t, u] }) (hdst : o.dst = some d) (hd : Nat.blt d n = true)
    (hs : evl τ s = some (.slice A m c)) (hi : H[i]? = some (.fz A m c e 1 xs)) (hx : evl τ x = some (.string (bs l))) (ht : P.underlying t = some (.slice e)) (hu : P.underlying u = some .string)
    (hI : (P.info? e).map (fun i => (i.size, i.bytes, i.zero)) = some (1, 1, some (.int .u8 0))) (hm : m + l.length ≤ 140737488355328)
    (hK : ∀ A' c', ((m = 0 → A = none) → m + l.length = 0 → A' = none) → ∃ H2, SetAt H i (.fz A' (m + l.length) c' e 1 (xs ++ l.map bv)) H2 ∧ K ((d, .slice A' (m + l.length) c') :: τ) H2) : StepTo P w0 D n o τ H K :=
  ⟨fun Kw Q hk' a w ha hw => by
    obtain ⟨ti, hti, hsz, hbz, hzz⟩ := info_u8 hI
    have hrow := hw.holds _ (List.mem_of_getElem? hi)
    obtain ⟨A', c', w', hr, hown, hgr, hat, hnil⟩ := append_strF (P := P) (w := w) (ty := o.type) ht hu hti hzz hsz hbz hrow (bs l) (by rw [bs_size]; exact hm)
    rw [bs_size] at hr hown hnil
    rw [strCells_bs] at hown
    have hrun : (execOp a.eval o).run P w = .ok (.value (.slice A' (m + l.length) c')) w' := by
      simp [execOp, ho, resolve, invoke, builtin, ha.ev hs, ha.ev hx, hr]
    unfold Oper.wp
    rw [hrun, Oper.upon_value, hdst]
    obtain ⟨H2, hH, hK⟩ := hK A' c' hnil
    refine hk' _ _ hK _ _ (ha.put (some d) _ hd) ?_
    rw [← hH.eq]
    exact hw.turn hi rfl (fun b' hb' => hat b' hb') hown (fun b' hb' hne => hgr.block b' hb' (fun e => hne e.symm)) hgr.size hgr.os hgr.tape hgr.output⟩
/-- append(b, c..): bytes behind a row of bytes. -/
theorem StepTo.appendF {x s : Operand} {t e m c q cq b off d : Nat} {A : Option Addr} {z : Value} {xs news ys : List Value} (i : Nat) (ho : o.op = .call { callee := .builtin .append, args := #[s, x], argTypes := #[t, t] }) (hdst : o.dst = some d) (hd : Nat.blt d n = true)
    (hs : evl τ s = some (.slice A m c)) (hi : H[i]? = some (.fz A m c e 1 xs)) (hx : evl τ x = some (.slice (some ⟨b, off, none⟩) q cq)) (ht : P.underlying t = some (.slice e))
    (hI : (P.info? e).map (fun i => (i.size, i.bytes, i.zero)) = some (1, 1, some z)) (hzs : z.cells.size = 1) (hn : CellsAt w0 D H b off news) (hl : news.length = q) (h1 : ∀ u ∈ news, u.oneCell' = true) (hm : m + q ≤ 140737488355328) (hys : xs ++ news = ys)
    (hK : ∀ A' c', ((m = 0 → A = none) → m + q = 0 → A' = none) → ∃ H2, SetAt H i (.fz A' (m + q) c' e 1 ys) H2 ∧ K ((d, .slice A' (m + q) c') :: τ) H2) : StepTo P w0 D n o τ H K :=
  ⟨fun Kw Q hk' a w ha hw => by
    subst hys
    obtain ⟨ti, hti, hsz, hbz, hzz⟩ := info_u8 hI
    have hrow := hw.holds _ (List.mem_of_getElem? hi)
    obtain ⟨A', c', w', hr, hown, hgr, hat, hnil⟩ := append_ownF (P := P) (w := w) (ty := o.type) ht hti hzz hsz hbz hzs hrow (cq := cq) hl (fun j u hu => hn w hw j u hu) h1 hm
    have hrun : (execOp a.eval o).run P w = .ok (.value (.slice A' (m + q) c')) w' := by
      simp [execOp, ho, resolve, invoke, builtin, ha.ev hs, ha.ev hx, hr]
    unfold Oper.wp
    rw [hrun, Oper.upon_value, hdst]
    obtain ⟨H2, hH, hK⟩ := hK A' c' hnil
    refine hk' _ _ hK _ _ (ha.put (some d) _ hd) ?_
    rw [← hH.eq]
    exact hw.turn hi rfl (fun b' hb' => hat b' hb') hown (fun b' hb' hne => hgr.block b' hb' (fun e => hne e.symm)) hgr.size hgr.os hgr.tape hgr.output⟩
/-- Pointers held against nil and against themselves. -/
theorem Yld.eqlPtrNil {T u : Nat} {x y : Operand} {p : Option Addr} (ho : o.op = .binOp .eql T x y u) (hx : evl τ x = some (.pointer p)) (hy : evl τ y = some (.pointer none)) (ht : P.underlying T = some (.pointer (P.pointee T))) : Yld P w0 D n o τ H (.bool p.isNone) := ⟨fun a w hA hw => by
  simp only [execOp, ho, hA.ev hx, hA.ev hy]
  simp [eqGuard, run_eql_pointer_nil w T p ht]⟩
theorem Yld.neqPtrSame {T u te : Nat} {x y : Operand} {p : Addr} (ho : o.op = .binOp .neq T x y u) (hx : evl τ x = some (.pointer (some p))) (hy : evl τ y = some (.pointer (some p))) (ht : P.underlying T = some (.pointer te)) (hI : (P.info? te).isSome = true) : Yld P w0 D n o τ H (.bool false) := ⟨fun a w hA hw => by
  obtain ⟨j, hj⟩ := Option.isSome_iff_exists.1 hI
  have := run_neq_ptr_same (P := P) w p ht hj
  simp only [execOp, ho, hA.ev hx, hA.ev hy]
  simp [eqGuard, this]⟩
theorem shape_box {w : World} {b T : Nat} {cs : List Value} (h : (Item.box b T cs).holds w) : w.shape? b = some (T, cs.length) := by
  have h' : w.heap[b]? = some (.cells cs.toArray T (0, 0)) := h
  simp [World.shape?, h']
/-- A pointer to a variable as a raw one, and back. -/
theorem Yld.toUnsafe {S U x : _} {t b off T : Nat} {cs : List Value} (i : Nat) (ho : o.op = .convert S U x) (hx : evl τ x = some (.pointer (some ⟨b, off, none⟩))) (hi : H[i]? = some (.box b T cs)) (hs : P.underlying S = some (.pointer t)) (hd : P.underlying U = some .unsafePointer)
    (ht : (P.info? t).any (fun j => !(j.size == 0)) = true) (hoff : off < cs.length) : Yld P w0 D n o τ H (.pointer (some ⟨b, off, none⟩)) := ⟨fun a w hA hw => by
  cases hh : P.info? t with
  | none => rw [hh] at ht; cases ht
  | some j =>
    rw [hh] at ht
    have hj : j.size ≠ 0 := by simpa using ht
    have := run_to_unsafe (P := P) w ⟨b, off, none⟩ hs hd hh hj (shape_box (hw.holds _ (List.mem_of_getElem? hi))) hoff
    simp only [execOp, ho, hA.ev hx]
    simp [this]⟩
theorem Yld.fromUnsafe {S U x : _} {u b off T : Nat} {cs : List Value} (i : Nat) (ho : o.op = .convert S U x) (hx : evl τ x = some (.pointer (some ⟨b, off, none⟩))) (hi : H[i]? = some (.box b T cs)) (hs : P.underlying S = some .unsafePointer) (hd : P.underlying U = some (.pointer u))
    (hu : (P.info? u).isSome = true) (hlies : liesAt P P.depth T (cs.length / P.cellsOf T) off u 1 = true) : Yld P w0 D n o τ H (.pointer (some ⟨b, off, none⟩)) := ⟨fun a w hA hw => by
  obtain ⟨j, hj⟩ := Option.isSome_iff_exists.1 hu
  have := run_from_unsafe (P := P) w ⟨b, off, none⟩ hs hd hj (shape_box (hw.holds _ (List.mem_of_getElem? hi))) hlies
  simp only [execOp, ho, hA.ev hx]
  simp [this]⟩
/-- A call of a function that stands in the model. -/
theorem Yld.outer {v : Value} {F : Operand} {args : Array Operand} {tys : Array TypeId} {vs us : List Value} {f : FuncId} (ho : o.op = .call { callee := .value F, args := args, argTypes := tys }) (ha : evls τ args.toList = some vs) (hF : funV vs (evl τ F) = some (f, us))
    (h : ∀ w, (callFunc f us.toArray).run P w = .ok (.value v) w) : Yld P w0 D n o τ H v := ⟨fun a w hA hw => by
  obtain ⟨first, captured, hfv, rfl⟩ := funV_some hF
  have hm : args.map a.eval = vs.toArray := by
    rw [← evls_eq hA _ _ ha]; exact Array.ext' (by simp)
  have he := hA.ev hfv
  have hh := h w
  have e5 : (first.toList ++ vs ++ captured.toList).toArray = first ++ (vs.toArray ++ captured) := by simp
  rw [e5] at hh
  simp only [execOp, ho, resolve, he, hm, Deferred.ofValue, invoke]
  simp [hh]⟩
/-- Where a row of bytes begins. -/
theorem Yld.sliceDataNil {x : Operand} {t : TypeId} {m c : Nat} (ho : o.op = .call { callee := .builtin .unsafeSliceData, args := #[x], argTypes := #[t] }) (hx : evl τ x = some (.slice none m c)) : Yld P w0 D n o τ H (.pointer none) := ⟨fun a w hA hw => by
  have := run_unsafeSliceData_nil (P := P) w #[t] o.type m c
  simp only [execOp, ho, resolve, invoke, builtin]
  simp [hA.ev hx, this]⟩
theorem Yld.sliceData {x : Operand} {t : TypeId} {p : Addr} {m c : Nat} (ho : o.op = .call { callee := .builtin .unsafeSliceData, args := #[x], argTypes := #[t] }) (hx : evl τ x = some (.slice (some p) m c)) (hc : 0 < c) : Yld P w0 D n o τ H (.pointer (some p)) := ⟨fun a w hA hw => by
  have := run_unsafeSliceData_row (P := P) w #[t] o.type p m c (by omega)
  simp only [execOp, ho, resolve, invoke, builtin]
  simp [hA.ev hx, this]⟩
theorem Yld.unsafeNone {x y : Operand} {t u : TypeId} {p : Option Addr} (ho : o.op = .call { callee := .builtin .unsafeString, args := #[x, y], argTypes := #[t, u] }) (hx : evl τ x = some (.pointer p)) (hy : evl τ y = some (.int .i64 0)) : Yld P w0 D n o τ H (.string (bs [])) := ⟨fun a w hA hw => by
  have := run_unsafeString_none (P := P) w t u o.type p
  simp only [execOp, ho, resolve, invoke, builtin]
  simp [hA.ev hx, hA.ev hy, this]
  rfl⟩
theorem ownsF_freeze {w : World} {e g m c : Nat} {xs : List Value} (h : w.ownsRowF 0 e 1 (.slice (some ⟨g, 0, none⟩) m c) m xs) : (w.freeze ⟨g, 0, none⟩ m).ownsRowF 0 e 1 (.slice (some ⟨g, 0, none⟩) m c) m xs := by
  refine ⟨h.1, ?_⟩
  rcases h.2 with ⟨h1, _⟩ | ⟨g', cap, cur, fz, hv, hb, hg, hf, r⟩
  · cases h1
  · injection hv with e1 e2 e3
    injection e1 with e1
    injection e1 with e1
    subst e1
    obtain ⟨lo, hi⟩ := fz
    have hf' : hi ≤ m := by simpa using hf
    refine .inr ⟨g, cap, cur, if m = 0 then (lo, hi) else if lo == hi then (0, 0 + m) else (min lo 0, max hi (0 + m)), by rw [e3], hb, ?_, ?_, r⟩
    · unfold World.freeze
      by_cases h0 : m = 0
      · rw [if_pos h0, if_pos h0]; exact hg
      · rw [if_neg h0, if_neg h0]
        simp [Array.getElem?_modify, hg]
    · by_cases h0 : m = 0
      · rw [if_pos h0]; simpa using hf'
      · rw [if_neg h0]
        split
        · simp
        · simp; omega
/-- A text over a row of bytes: the bytes, as a text; they are frozen. -/
theorem StepTo.unsafeStr {x y : Operand} {t u e g m c d : Nat} {l : List UInt8} (i : Nat) (ho : o.op = .call { callee := .builtin .unsafeString, args := #[x, y], argTypes := #[t, u] }) (hdst : o.dst = some d) (hd : Nat.blt d n = true)
    (hx : evl τ x = some (.pointer (some ⟨g, 0, none⟩))) (hy : evl τ y = some (.int .i64 m)) (hi : H[i]? = some (.fz (some ⟨g, 0, none⟩) m c e 1 (l.map bv))) (hp : P.underlying t = some (.pointer e)) (hc : P.cellsOf e = 1) (h0 : 0 < m)
    (hK : K ((d, .string (bs l)) :: τ) H) : StepTo P w0 D n o τ H K :=
  ⟨fun Kw Q hk' a w ha hw => by
    have hrow : w.ownsRowF 0 e 1 (.slice (some ⟨g, 0, none⟩) m c) m (l.map bv) := hw.holds _ (List.mem_of_getElem? hi)
    have hlm : l.length = m := by have := hrow.1; simpa using this
    obtain ⟨cur, fz, hg, hcur, hcm⟩ : ∃ cur fz, w.heap[g]? = some (.cells cur e fz) ∧ m ≤ cur.size ∧ m ≤ maxLen := by
      rcases hrow.2 with ⟨h1, _⟩ | ⟨g', cap, cur, fz, hv, hb, hg, hf, h1, h2, h3, _⟩
      · cases h1
      · injection hv with e1 e2
        injection e1 with e1
        injection e1 with e1
        subst e1
        exact ⟨cur, fz, hg, by omega, by omega⟩
    subst hlm
    have hr := run_unsafeString_row (P := P) w t u o.type e hp hc g cur.size (by simp [World.shape?, hg]) l (by intro e; rw [e] at h0; simp at h0) hcur (by unfold maxLen at hcm; omega)
      (fun j x hxj => hrow.cells (g := g) rfl j (.int .u8 x.toNat) (by rw [List.getElem?_map, hxj]; rfl))
    have hrun : (execOp a.eval o).run P w = .ok (.value (.string (bs l))) (w.freeze ⟨g, 0, none⟩ l.length) := by
      simp only [execOp, ho, resolve, invoke, builtin]
      simp [ha.ev hx, ha.ev hy, hr]
      rfl
    unfold Oper.wp
    rw [hrun, Oper.upon_value, hdst]
    refine hk' _ _ hK _ _ (ha.put (some d) _ hd) ?_
    have hF := ownsF_freeze hrow
    have hsz : (w.freeze ⟨g, 0, none⟩ l.length).heap.size = w.heap.size := by unfold World.freeze; split <;> simp
    have := hw.turn (w' := w.freeze ⟨g, 0, none⟩ l.length) hi rfl (it' := .fz (some ⟨g, 0, none⟩) l.length c e 1 (l.map bv)) (fun b' hb' => .inl hb') hF (fun b' hb' hne => by
      have hgb : g ≠ b' := fun e => hne (by rw [e]; rfl)
      unfold World.freeze
      split
      · rfl
      · simp [Array.getElem?_modify, hgb]) (by rw [hsz]; exact Nat.le_refl _) (by unfold World.freeze; split <;> rfl) (by unfold World.freeze; split <;> rfl) (by unfold World.freeze; split <;> rfl)
    rwa [set_same H i _ hi] at this⟩
/-- A row that is there lies somewhere. -/
theorem WC.fzAt {Q : Exit → Act → World → Prop} {cc : Code} (i : Nat) {A : Option Addr} {m c t k : Nat} {xs : List Value} (hi : H[i]? = some (.fz A m c t k xs)) (hm : 0 < m) (h : ∀ b, A = some ⟨b, 0, none⟩ → m ≤ c → WC P w0 D n cc Q τ H) : WC P w0 D n cc Q τ H :=
  ⟨fun a w ha hw => by
    have hr : w.ownsRowF 0 t k (.slice A m c) m xs := hw.holds _ (List.mem_of_getElem? hi)
    rcases hr.2 with ⟨_, h0⟩ | ⟨g, cap, cur, fz, hv, _, _, _, hnc, _⟩
    · omega
    · injection hv with e1 e2
      exact (h g e1 (by omega)).go a w ha hw⟩
/-- A row that is not yet there. -/
theorem WC.nilFz {Q : Exit → Act → World → Prop} {cc : Code} (t k : Nat) (h : WC P w0 D n cc Q τ (.fz none 0 0 t k [] :: H)) : WC P w0 D n cc Q τ H :=
  ⟨fun a w ha hw => h.go a w ha ⟨hw.ext, fun it hit => by
    rcases List.mem_cons.1 hit with rfl | hit
    · exact World.ownsRowF_nil _ _ _ _
    · exact hw.holds it hit, fun it hit hm b hb => by
    rcases List.mem_cons.1 hit with rfl | hit
    · simp [Item.blk] at hb
    · exact hw.own it hit hm b hb, List.Pairwise.cons (fun y hy => .inr fun b hb => by simp [Item.blk] at hb) hw.apart⟩⟩
end
end Go.Proofs.Ythbhjnmkbmmcnaa
