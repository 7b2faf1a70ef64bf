/- Slices that come and go: small facts on their addresses and blocks; rows of integers. Of whatever program. -/
import Derived.Test.YthbhjnmkbmmcnaaDel
import Derived.Test.YthbhjnmkbmmcnaaMk
import Derived.Test.YthbhjnmkbmmcnaaHg
namespace Go.Proofs.Ythbhjnmkbmmcnaa
open Go.RowKit
set_option linter.unusedVariables false
set_option linter.unusedSectionVars false

def okA (A : Option Addr) (n : Nat) : Prop := (A.isSome = true ∨ n = 0) ∧ ∀ x, A = some x → x.spot = none
theorem okA_nil : okA none 0 := ⟨.inr rfl, fun x h => by cases h⟩
theorem okA_row (b n : Nat) : okA (some ⟨b, 0, none⟩) n := ⟨.inl rfl, fun x h => by cases h; rfl⟩
theorem own_okA {w : World} {base e k n c : Nat} {A : Option Addr} {xs : List Value} (h : w.ownsRow base e k (.slice A n c) n xs) : okA A n := by
  rcases h.2 with ⟨h0, h1⟩ | ⟨g, cap, cur, hv, _⟩
  · cases h0; exact okA_nil
  · simp only [Value.slice.injEq] at hv
    obtain ⟨rfl, _⟩ := hv
    exact ⟨.inl rfl, fun x hx => by injection hx with hx; rw [← hx]⟩
theorem new_row {w w' : World} {A : Option Addr} {n c t k : Nat} {xs : List Value} {V : Nat → Prop} (h : w'.ownsRow w.heap.size t k (.slice A n c) n xs) (hb : Below w.heap.size w w') : New V [.row A n c t k xs] w w' :=
  ⟨hb, fun it hit => by
    rw [List.mem_singleton] at hit
    subst hit
    refine ⟨own_base h (Nat.zero_le _), fun b hbk => .inl (h.lt b ?_).1⟩
    cases A with
    | none => simp [Item.blk] at hbk
    | some a => simpa [Item.blk, Value.ownBlock] using hbk, List.pairwise_singleton _ _⟩
theorem blk_vw {A : Option Addr} {n k k' : Nat} {xs ys : List Value} : (Item.vw A n k xs).blk = (Item.vw A n k' ys).blk := by cases n <;> rfl
/-- The blocks of a slice that came in, as far as they may be handed back. -/
def nearV (w : World) (V : Nat → Prop) (A : Option Addr) (m : Nat) : Prop := ∀ b, (Item.vw A m 1 []).blk = some b → w.heap.size ≤ b ∨ V b
theorem nearV.vs {w : World} {H : List Item} {idx : List Nat} {A : Option Addr} {m k : Nat} {xs : List Value} (i : Nat) (hi : H[i]? = some (.vw A m k xs)) (hm : i ∈ idx) : nearV w (Vs H idx) A m := fun b hb => .inr ⟨i, hm, _, hi, rfl, by rw [blk_vw]; exact hb⟩
theorem own_cap {w : World} {base e k n c : Nat} {A : Option Addr} {xs : List Value} (h : w.ownsRow base e k (.slice A n c) n xs) : n ≤ c := by
  rcases h.2 with ⟨h0, h1⟩ | ⟨g, cap, cur, hv, _, _, h2, _⟩
  · cases h0; exact Nat.le_refl _
  · simp only [Value.slice.injEq] at hv
    obtain ⟨_, _, rfl⟩ := hv
    exact h2
section
variable {P : Program} {w0 : World} {D : Nat → Prop} {n : Nat} [Dfr] {Q : Exit → Act → World → Prop} {Kq : Act → World → Prop} {τ : Tm} {H : List Item} {ops : Array Oper} {l : List Oper} {x : Code} {o : Oper} {K : Tm → List Item → Prop}
theorem WC.okRow (i : Nat) {A : Option Addr} {m c t k : Nat} {xs : List Value} (hi : H[i]? = some (.row A m c t k xs)) (h : okA A m → WC P w0 D n x Q τ H) : WC P w0 D n x Q τ H :=
  ⟨fun a w ha hw => (h (own_okA (hw.holds _ (List.mem_of_getElem? hi)))).go a w ha hw⟩
theorem WC.ownRow (i : Nat) {A : Option Addr} {m c t k : Nat} {xs : List Value} (hi : H[i]? = some (.row A m c t k xs)) (h : okA A m → (∀ b, A.map (·.block) = some b → w0.heap.size ≤ b) → WC P w0 (fun _ => False) n x Q τ H) : WC P w0 (fun _ => False) n x Q τ H :=
  ⟨fun a w ha hw => (h (own_okA (hw.holds _ (List.mem_of_getElem? hi))) (fun b hb => (hw.own _ (List.mem_of_getElem? hi) rfl b hb).resolve_right id)).go a w ha hw⟩
theorem WC.capRow (i : Nat) {A : Option Addr} {m c t k : Nat} {xs : List Value} (hi : H[i]? = some (.row A m c t k xs)) (h : m ≤ c → WC P w0 D n x Q τ H) : WC P w0 D n x Q τ H :=
  ⟨fun a w ha hw => (h (own_cap (hw.holds _ (List.mem_of_getElem? hi)))).go a w ha hw⟩
/-- A part of a row that is read alone, spelled anew. -/
theorem WC.vwCut (i : Nat) {A : Option Addr} {m k : Nat} {xs : List Value} (hi : H[i]? = some (.vw A m k xs)) (lo len cap : Nat) (A' : Option Addr) (ys : List Value) (hl : lo + len ≤ m) (hm : m ≤ cap) (hA : cutA A cap lo k = A') (hy : (xs.drop (lo * k)).take (len * k) = ys) (h : WC P w0 D n x Q τ (.vw A' len k ys :: H)) : WC P w0 D n x Q τ H :=
  ⟨fun a w ha hw => h.go a w ha (by have := hw.vwPart hi lo len cap hl hm; rwa [hA, hy] at this)⟩
theorem WL.okRow (i : Nat) {A : Option Addr} {m c t k : Nat} {xs : List Value} (hi : H[i]? = some (.row A m c t k xs)) (h : okA A m → WL P w0 D n ops Q l τ H) : WL P w0 D n ops Q l τ H :=
  ⟨fun a w ha hw => (h (own_okA (hw.holds _ (List.mem_of_getElem? hi)))).go a w ha hw⟩
theorem WL.ownRow (i : Nat) {A : Option Addr} {m c t k : Nat} {xs : List Value} (hi : H[i]? = some (.row A m c t k xs)) (h : okA A m → (∀ b, A.map (·.block) = some b → w0.heap.size ≤ b) → WL P w0 (fun _ => False) n ops Q l τ H) : WL P w0 (fun _ => False) n ops Q l τ H :=
  ⟨fun a w ha hw => (h (own_okA (hw.holds _ (List.mem_of_getElem? hi))) (fun b hb => (hw.own _ (List.mem_of_getElem? hi) rfl b hb).resolve_right id)).go a w ha hw⟩
theorem WL.capRow (i : Nat) {A : Option Addr} {m c t k : Nat} {xs : List Value} (hi : H[i]? = some (.row A m c t k xs)) (h : m ≤ c → WL P w0 D n ops Q l τ H) : WL P w0 D n ops Q l τ H :=
  ⟨fun a w ha hw => (h (own_cap (hw.holds _ (List.mem_of_getElem? hi)))).go a w ha hw⟩
theorem WL.rowAt (i : Nat) {A : Option Addr} {m c t k : Nat} {xs : List Value} (hi : H[i]? = some (.row A m c t k xs)) (hm : 0 < m) (h : ∀ b, A = some ⟨b, 0, none⟩ → WL P w0 D n ops Q l τ H) : WL P w0 D n ops Q l τ H :=
  ⟨fun a w ha hw => by
    obtain ⟨b, hb⟩ := Item.row_shape (hw.holds _ (List.mem_of_getElem? hi)) hm
    exact (h b hb).go a w ha hw⟩
/-- A part of a row that is read alone, spelled anew. -/
theorem WL.vwCut (i : Nat) {A : Option Addr} {m k : Nat} {xs : List Value} (hi : H[i]? = some (.vw A m k xs)) (lo len cap : Nat) (A' : Option Addr) (ys : List Value) (hl : lo + len ≤ m) (hm : m ≤ cap) (hA : cutA A cap lo k = A') (hy : (xs.drop (lo * k)).take (len * k) = ys) (h : WL P w0 D n ops Q l τ (.vw A' len k ys :: H)) : WL P w0 D n ops Q l τ H :=
  ⟨fun a w ha hw => h.go a w ha (by have := hw.vwPart hi lo len cap hl hm; rwa [hA, hy] at this)⟩
theorem WQ.okRow (i : Nat) {A : Option Addr} {m c t k : Nat} {xs : List Value} (hi : H[i]? = some (.row A m c t k xs)) (h : okA A m → WQ w0 D n Kq τ H) : WQ w0 D n Kq τ H :=
  ⟨fun a w ha hw => (h (own_okA (hw.holds _ (List.mem_of_getElem? hi)))).go a w ha hw⟩
theorem WQ.ownRow (i : Nat) {A : Option Addr} {m c t k : Nat} {xs : List Value} (hi : H[i]? = some (.row A m c t k xs)) (h : okA A m → (∀ b, A.map (·.block) = some b → w0.heap.size ≤ b) → WQ w0 (fun _ => False) n Kq τ H) : WQ w0 (fun _ => False) n Kq τ H :=
  ⟨fun a w ha hw => (h (own_okA (hw.holds _ (List.mem_of_getElem? hi))) (fun b hb => (hw.own _ (List.mem_of_getElem? hi) rfl b hb).resolve_right id)).go a w ha hw⟩
theorem WQ.capRow (i : Nat) {A : Option Addr} {m c t k : Nat} {xs : List Value} (hi : H[i]? = some (.row A m c t k xs)) (h : m ≤ c → WQ w0 D n Kq τ H) : WQ w0 D n Kq τ H :=
  ⟨fun a w ha hw => (h (own_cap (hw.holds _ (List.mem_of_getElem? hi)))).go a w ha hw⟩
theorem WQ.rowAt (i : Nat) {A : Option Addr} {m c t k : Nat} {xs : List Value} (hi : H[i]? = some (.row A m c t k xs)) (hm : 0 < m) (h : ∀ b, A = some ⟨b, 0, none⟩ → WQ w0 D n Kq τ H) : WQ w0 D n Kq τ H :=
  ⟨fun a w ha hw => by
    obtain ⟨b, hb⟩ := Item.row_shape (hw.holds _ (List.mem_of_getElem? hi)) hm
    exact (h b hb).go a w ha hw⟩
/-- A part of a row that is read alone, spelled anew. -/
theorem WQ.vwCut (i : Nat) {A : Option Addr} {m k : Nat} {xs : List Value} (hi : H[i]? = some (.vw A m k xs)) (lo len cap : Nat) (A' : Option Addr) (ys : List Value) (hl : lo + len ≤ m) (hm : m ≤ cap) (hA : cutA A cap lo k = A') (hy : (xs.drop (lo * k)).take (len * k) = ys) (h : WQ w0 D n Kq τ (.vw A' len k ys :: H)) : WQ w0 D n Kq τ H :=
  ⟨fun a w ha hw => h.go a w ha (by have := hw.vwPart hi lo len cap hl hm; rwa [hA, hy] at this)⟩
theorem WQ.rowVw (i : Nat) {A : Option Addr} {m cap t k : Nat} {xs : List Value} (hi : H[i]? = some (.row A m cap t k xs)) (hm : m ≤ 4611686018427387904) (h : WQ w0 D n Kq τ (H.set i (.vw A m k xs))) : WQ w0 D n Kq τ H :=
  ⟨fun a w ha hw => h.go a w ha (hw.rowVw hi (by simp only [maxLen]; omega))⟩
/-- A whole list that is read alone is put behind a row of mine. -/
theorem StepTo.appendVw {x s : Operand} {t e k m c q cq by_ d : Nat} {A B : Option Addr} {xs news : List Value} (i j : Nat) (ho : o.op = .call { callee := .builtin .append, args := #[s, x], argTypes := #[t, t] }) (hdst : o.dst = some d) (hd : Nat.blt d n = true)
    (hs : evl τ s = some (.slice A m c)) (hi : H[i]? = some (.row A m c e k xs)) (hj : H[j]? = some (.vw B q k news)) (hx : evl τ x = some (.slice B q cq)) (hB : okA B q) (ht : P.underlying t = some (.slice e)) (hk : (P.info? e).map (·.size) = some k) (hb : (P.info? e).map (·.bytes) = some by_)
    (hz : ((P.info? e).bind (·.zero)).map (·.cells.size) = some k) (hk0 : Nat.blt 0 k = true) (hl : news.length = q * k) (h1 : ∀ u ∈ news, u.oneCell' = true)
    (hm : m + q ≤ 4611686018427387904) (hby : (m + q) * by_ ≤ 140737488355328)
    (hK : ∀ A' c', ∃ H2, SetAt H i (.row A' (m + q) c' e k (xs ++ news)) H2 ∧ K ((d, .slice A' (m + q) c') :: τ) H2) : StepTo P w0 D n o τ H K := by
  rcases Nat.eq_zero_or_pos q with rfl | hq
  · have hn : news = [] := by
      have : news.length = 0 := by rw [hl, Nat.zero_mul]
      exact List.eq_nil_of_length_eq_zero this
    subst hn
    rw [List.append_nil, Nat.add_zero] at hK
    refine ⟨fun Kw Q hk' a w ha hw => ?_⟩
    obtain ⟨ti, hti, hsz⟩ : ∃ ti, P.info? e = some ti ∧ ti.size = k := by
      cases hh : P.info? e with
      | none => rw [hh] at hk; cases hk
      | some ti =>
        rw [hh] at hk
        exact ⟨ti, rfl, by simpa using hk⟩
    have hrow : w.ownsRow 0 e k (.slice A m c) m xs := hw.holds _ (List.mem_of_getElem? hi)
    have hr : (Builtin.append_ #[t, t] o.type #[.slice A m c, .slice B 0 cq]).run P w = .ok (.slice A m c) w := by
      rcases hrow.2 with ⟨h1, h2⟩ | ⟨g, cap, cur, h1, _, _, hnc, _⟩
      · rw [h1]
        cases B with
        | none => simp [Builtin.append_, run_underlying ht, sizeOf, typeInfo, hti, Builtin.lenOf, Builtin.firstCells, loadCells, loadCellsFrom]
        | some b =>
          obtain ⟨b, off, sp⟩ := b
          obtain rfl : sp = none := hB.2 _ rfl
          simp [Builtin.append_, run_underlying ht, sizeOf, typeInfo, hti, Builtin.lenOf, Builtin.firstCells, loadCells, loadCellsFrom]
      · rw [h1]
        have h2 : m ≤ cap := hnc
        cases B with
        | none => simp [Builtin.append_, run_underlying ht, sizeOf, typeInfo, hti, Builtin.lenOf, Builtin.firstCells, loadCells, loadCellsFrom, h2, storeCells]
        | some b =>
          obtain ⟨b, off, sp⟩ := b
          obtain rfl : sp = none := hB.2 _ rfl
          simp [Builtin.append_, run_underlying ht, sizeOf, typeInfo, hti, Builtin.lenOf, Builtin.firstCells, loadCells, loadCellsFrom, h2, storeCells]
    have hrun : (execOp a.eval o).run P w = .ok (.value (.slice A m c)) w := by
      simp [execOp, ho, resolve, invoke, builtin, ha.ev hs, ha.ev hx, hr]
    unfold Oper.wp
    rw [hrun, Oper.upon_value, hdst]
    obtain ⟨H2, hH, hK2⟩ := hK A c
    have e2 : H2 = H := by rw [← hH.eq]; exact set_same H i _ hi
    rw [e2] at hK2
    exact hk' _ _ hK2 _ _ (ha.put (some d) _ hd) hw
  · refine ⟨fun Kw Q hk' a w ha hw => ?_⟩
    obtain ⟨b, off, e1, _⟩ := (hw.holds _ (List.mem_of_getElem? hj)).2.2 hq
    subst e1
    exact (StepTo.appendB i ho hdst hd hs hi hx ht hk hb hz hk0 (CellsAt.vwAll j hj) hl h1 hm hby hK).go Kw Q hk' a w ha hw
end
theorem cutA_zero {A : Option Addr} {c k : Nat} : cutA A c 0 k = A := by
  unfold cutA
  split
  · rfl
  · rw [Nat.zero_mul]; cases A <;> simp [Addr.add]
theorem okA_cut {A : Option Addr} {m c lo k q : Nat} (h : okA A m) (hq : q ≤ m) : okA (cutA A c lo k) q := by
  unfold cutA
  split
  · exact ⟨h.1.imp id (by omega), h.2⟩
  · cases A with
    | none => exact ⟨.inr (by rcases h.1 with h | h; cases h; omega), fun x hx => by simp at hx⟩
    | some a =>
      obtain ⟨b, o, sp⟩ := a
      obtain rfl : sp = none := h.2 _ rfl
      exact ⟨.inl rfl, fun x hx => by simp only [Option.map_some, Option.some.injEq] at hx; rw [← hx, addr_add]⟩
theorem okA_less {A : Option Addr} {m q : Nat} (h : okA A m) (hq : q ≤ m) : okA A q := ⟨h.1.imp id (by omega), h.2⟩
theorem vw_blk {A : Option Addr} {n k : Nat} {xs : List Value} {b : Nat} (h : (Item.vw A n k xs).blk = some b) : A.map (·.block) = some b := by
  cases n with
  | zero => simp [Item.blk] at h
  | succ n => exact h
theorem holds_nil {w : World} {A : Option Addr} {k : Nat} {α : Type} {enc : α → List Value} : (Item.vw A 0 k (flat enc [])).holds w := ⟨by simp [flat], by simp [maxLen], fun h => absurd h (by omega)⟩
theorem flat_one {α : Type} {enc : α → List Value} (he : ∀ x, ∀ u ∈ enc x, u.oneCell' = true) (xs : List α) : ∀ u ∈ flat enc xs, u.oneCell' = true := by
  intro u hu
  simp only [flat, List.mem_flatMap] at hu
  obtain ⟨x, _, hx⟩ := hu
  exact he x u hx
theorem ic_one (k : IntKind) (x : Int) : ∀ u ∈ ic k x, u.oneCell' = true := by intro u hu; simp [ic] at hu; subst hu; rfl
theorem flat_ic (k : IntKind) : ∀ xs : List Int, flat (ic k) xs = xs.map (Value.int k)
  | [] => rfl
  | x :: xs => by rw [flat_cons, flat_ic k xs]; rfl
theorem ic_get {k : IntKind} {xs : List Int} {i : Nat} {x : Int} (h : xs[i]? = some x) : (flat (ic k) xs)[i]? = some (.int k x) := by rw [flat_ic, List.getElem?_map, h]; rfl
theorem ic_set {k : IntKind} {xs : List Int} {i j : Nat} {x : Int} (e : j = i) : (flat (ic k) xs).set j (.int k x) = flat (ic k) (xs.set i x) := by rw [flat_ic, flat_ic, List.map_set, e]
theorem take_snoc {α : Type} {xs : List α} {i : Nat} {x : α} (h : xs[i]? = some x) : xs.take (i + 1) = xs.take i ++ [x] := by rw [List.take_add_one, h]; rfl
end Go.Proofs.Ythbhjnmkbmmcnaa
