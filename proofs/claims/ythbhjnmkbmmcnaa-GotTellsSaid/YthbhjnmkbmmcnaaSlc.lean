/- Laws of the built-in 'clear' and of 'append' in place, on a row that the call owns: whatever the size of an element. Of whatever program. -/
import Derived.Test.YthbhjnmkbmmcnaaLst
import Derived.Deep.RegionLaw
import Derived.Laws.CopyRow
import Derived.Lib.SliceRun
import Derived.WalkSpells
import Derived.Lib.LazyBuf
namespace Go.Proofs.Ythbhjnmkbmmcnaa
open Go.RowKit

theorem setRow_size (w : World) (g : Nat) (cs : Array Value) : (w.setRow g cs).heap.size = w.heap.size := by simp [World.setRow]
theorem setRow_other (w : World) (g k : Nat) (cs : Array Value) (h : k ≠ g) : (w.setRow g cs).heap[k]? = w.heap[k]? := by
  simp only [World.setRow, Array.getElem?_modify]
  rw [if_neg (by omega)]
theorem grown_setRow (w : World) (g : Nat) (cs : Array Value) : w.grownBy (w.setRow g cs) (some g) :=
  ⟨rfl, rfl, rfl, by rw [setRow_size]; exact Nat.le_refl _, fun k _ hk => setRow_other w g k cs (fun e => hk (by rw [e]))⟩
theorem grown_trans {a b c : World} {row : Option Nat} (h : a.grownBy b row) (k : b.grownBy c row) : a.grownBy c row :=
  ⟨k.os.trans h.os, k.tape.trans h.tape, k.output.trans h.output, Nat.le_trans h.size k.size, fun i hi hne => (k.block i (Nat.lt_of_lt_of_le hi h.size) hne).trans (h.block i hi hne)⟩
theorem grown_drew {a b : World} {row : Option Nat} (h : a.grownBy b row) : a.grownBy b.drew row := ⟨h.os, h.tape, h.output, h.size, h.block⟩
theorem grown_drew0 (a : World) (row : Option Nat) : a.grownBy a.drew row := ⟨rfl, rfl, rfl, Nat.le_refl _, fun _ _ _ => rfl⟩

section
variable {P : Program}
/-- 'clear' of a part of a row: what stands ahead of the part is as it was. -/
theorem run_clear_row (w : World) (t e ty : TypeId) (z : Value) (k : Nat) (ht : P.underlying t = some (.slice e)) (hv : ∀ w, (zeroValue e).run P w = .ok z w) (hk : z.cells.size = k)
    (h1 : ∀ u ∈ z.cells, u.oneCell' = true) (hk0 : 0 < k) (g o n c : Nat) (cur : Array Value) (hg : w.heap[g]? = some (.cells cur e (0, 0))) (hfit : o + n * k ≤ cur.size) :
    ∃ cur', (Builtin.clear_ #[t] ty #[.slice (some ⟨g, o, none⟩) n c]).run P w = .ok (.tuple #[]) (w.setRow g cur') ∧ cur'.size = cur.size ∧ cur'.toList.take o = cur.toList.take o := by
  rcases Nat.eq_zero_or_pos n with rfl | hn
  · exact ⟨cur, by simp [Builtin.clear_, run_underlying ht, setRow_self w g cur e (0, 0) hg], rfl, rfl⟩
  · have hlen : (Builtin.zeroCells z.cells n).toList.length = n * k := by simp [Builtin.zeroCells, hk]
    have hone : ∀ v ∈ (Builtin.zeroCells z.cells n).toList, v.oneCell' = true := by
      intro v hv'
      simp only [Builtin.zeroCells, Array.toList_map, Array.toList_range, List.mem_map, List.mem_range] at hv'
      obtain ⟨i, hi, rfl⟩ := hv'
      have hm : i % z.cells.size < z.cells.size := Nat.mod_lt _ (by omega)
      rw [getElem!_pos z.cells (i % z.cells.size) hm]
      exact h1 _ (Array.getElem_mem hm)
    have hst := run_storeCells_at P g o e (Builtin.zeroCells z.cells n).toList 0 cur w hg (by rw [hlen]; simpa using hfit) hone
    simp only [Nat.add_zero] at hst
    refine ⟨(cur.toList.take o ++ (Builtin.zeroCells z.cells n).toList ++ cur.toList.drop (o + (Builtin.zeroCells z.cells n).toList.length)).toArray, ?_, ?_, ?_⟩
    · obtain ⟨m, rfl⟩ : ∃ m, n = m + 1 := ⟨n - 1, by omega⟩
      simp [Builtin.clear_, run_underlying ht, hv, hst]
    · simp only [List.size_toArray, List.length_append, List.length_take, List.length_drop, hlen, Array.length_toList]
      omega
    · simp only [List.append_assoc]
      rw [List.take_append_of_le_length (by rw [List.length_take, Array.length_toList]; omega), List.take_take, Nat.min_self]

theorem wpList_clear_row {w : World} {ops : Array Oper} {rest : List Oper} {o : Oper} {a : Act} {Q : Exit → Act → World → Prop} (hgd : o.guard = none) (s : Operand) (t : TypeId)
    (ho : o.op = .call { callee := .builtin .clear, args := #[s], argTypes := #[t] }) (e : TypeId) (z : Value) (k : Nat) (ht : P.underlying t = some (.slice e))
    (hv : ∀ w, (zeroValue e).run P w = .ok z w) (hk : z.cells.size = k) (h1 : ∀ u ∈ z.cells, u.oneCell' = true) (hk0 : 0 < k) (g off n c : Nat) (cur : Array Value)
    (hs : a.eval s = .slice (some ⟨g, off, none⟩) n c) (hg : w.heap[g]? = some (.cells cur e (0, 0))) (hfit : off + n * k ≤ cur.size)
    (h : ∀ cur', cur'.size = cur.size → cur'.toList.take off = cur.toList.take off → wpList P ops Q rest (a.put o.dst (.tuple #[])) (w.setRow g cur')) : wpList P ops Q (o :: rest) a w :=
  wpList_plain hgd fun K hK => by
    obtain ⟨cur', hr, h2, h3⟩ := run_clear_row (P := P) w t e o.type z k ht hv hk h1 hk0 g off n c cur hg hfit
    unfold Oper.wp execOp
    simp only [ho, resolve, invoke, builtin, Sem.run_bind, Sem.run_pure, Result.andThen_ok, List.map_toArray, List.map_cons, List.map_nil, hs, hr]
    exact hK _ _ (h cur' h2 h3)

/-- append in place, of a part of a row onto an earlier part of it, as one step of a region that draws. -/
theorem step_append_row {ops : Array Oper} {o : Oper} {a : Act} {w : World} {K : Act → World → Prop} {Q : Exit → Act → World → Prop} {E : Prop}
    (hgd : o.guard = none) (s x : Operand) (t : TypeId) (ho : o.op = Op.call { callee := Callee.builtin Builtin.append, args := #[s, x], argTypes := #[t, t] })
    (e : TypeId) (i : TypeInfo) (k : Nat) (ht : P.underlying t = some (.slice e)) (hi : P.info? e = some i) (hk : i.size = k)
    (g n cap : Nat) (cur : Array Value) (hg : w.heap[g]? = some (.cells cur e (0, 0))) (hs : a.eval s = .slice (some ⟨g, 0, none⟩) n cap)
    (ad : Addr) (m c : Nat) (news : List Value) (hx : a.eval x = .slice (some ad) m c) (hn : news.length = m * k) (hc : ∀ j u, news[j]? = some u → w.cell? (ad.add j) = some u) (h1 : ∀ u ∈ news, u.oneCell' = true)
    (hroom : n + m ≤ cap) (hfit : n * k + news.length ≤ cur.size)
    (hK : K (a.put o.dst (.slice (some ⟨g, 0, none⟩) (n + m) cap)) (w.setRow g (cur.toList.take (n * k) ++ news ++ cur.toList.drop (n * k + news.length)).toArray)) :
    if Region.wanted o (yielded ops a.tmps) = true then Oper.wp P o a w K Q else E := by
  have hw : Region.wanted o (yielded ops a.tmps) = true := by simp [Region.wanted, hgd]
  rw [if_pos hw]
  subst hk
  have hrun := run_append_room (P := P) w t o.type e i ht hi g n cap cur hg ad m c news hn hc h1 hroom hfit
  unfold Oper.wp
  simp [execOp, ho, resolve, invoke, builtin, hs, hx, hrun, Result.andThen]
  simp only [List.append_assoc] at hK
  exact hK
end

/-- It returns a slice that the call owns, of n elements, with these cells. -/
def RetOwn (base E k n : Nat) (xs : List Value) (w : World) (e : Ending) (w' : World) : Prop :=
  ∃ A c, e = .returned (.slice A n c) ∧ w'.ownsRow base E k (.slice A n c) n xs ∧ Below base w w'

theorem own_shape {w : World} {base e k n : Nat} {v : Value} {xs : List Value} (h : w.ownsRow base e k v n xs) : ∃ A c, v = .slice A n c := by
  rcases h.2 with ⟨rfl, rfl⟩ | ⟨g, cap, cur, rfl, _⟩
  · exact ⟨none, 0, rfl⟩
  · exact ⟨_, _, rfl⟩
theorem retOwn_mk {w w1 : World} {base E k n : Nat} {xs : List Value} {v : Value} (h : w1.ownsRow base E k v n xs) (hb : Below base w w1) : RetOwn base E k n xs w (.returned v) w1 := by
  obtain ⟨A, c, rfl⟩ := own_shape h
  exact ⟨A, c, rfl, h, hb⟩

theorem own_call {w w' : World} {base e k n : Nat} {v : Value} {xs : List Value} (h : w.ownsRow base e k v n xs) (hb : Below w.heap.size w w') : w'.ownsRow base e k v n xs := by
  rcases h.2 with h2 | ⟨g, cap, cur, hv, hg, hh, r⟩
  · exact ⟨h.1, .inl h2⟩
  · have hlt : g < w.heap.size := by
      rcases Nat.lt_or_ge g w.heap.size with hl | hl
      · exact hl
      · rw [Array.getElem?_eq_none hl] at hh; cases hh
    exact ⟨h.1, .inr ⟨g, cap, cur, hv, hg, (hb.block g hlt).trans hh, r⟩⟩
theorem own_drew {w : World} {base e k n : Nat} {v : Value} {xs : List Value} (h : w.ownsRow base e k v n xs) : w.drew.ownsRow base e k v n xs := h
/-- A store into another block leaves an owned row owned. -/
theorem own_far {w : World} {base e k n : Nat} {v : Value} {xs : List Value} (h : w.ownsRow base e k v n xs) {p : Addr} (hp : v.ownBlock ≠ some p.block) (u : Value) : (w.setCell p u).ownsRow base e k v n xs := by
  rcases h.2 with h2 | ⟨g, cap, cur, hv, hg, hh, r⟩
  · exact ⟨h.1, .inl h2⟩
  · refine ⟨h.1, .inr ⟨g, cap, cur, hv, hg, (Below.heap_setCell w p u g ?_).trans hh, r⟩⟩
    rintro rfl
    apply hp
    rw [hv]
    rfl
/-- Two rows whose element types differ lie in two blocks. -/
theorem own_apart {w : World} {base base' e e' k k' n n' : Nat} {v v' : Value} {xs xs' : List Value} (h : w.ownsRow base e k v n xs) (h' : w.ownsRow base' e' k' v' n' xs') (hne : e ≠ e') {g : Nat} (hg : v'.ownBlock = some g) : v.ownBlock ≠ some g := by
  rcases h.2 with ⟨rfl, _⟩ | ⟨g1, c1, cur1, rfl, _, hh1, _⟩
  · simp [Value.ownBlock]
  · rcases h'.2 with ⟨rfl, _⟩ | ⟨g2, c2, cur2, rfl, _, hh2, _⟩
    · simp [Value.ownBlock] at hg
    · simp [Value.ownBlock] at hg ⊢
      subst hg
      rintro rfl
      rw [hh1] at hh2
      injection hh2 with hh2
      injection hh2 with _ ht
      exact hne ht
theorem own_whole {w : World} {base e k n g t : Nat} {v : Value} {xs : List Value} {cs : Array Value} (h : w.ownsRow base e k v n xs) (h' : Whole w g t cs) (hne : e ≠ t) : v.ownBlock ≠ some g := by
  rcases h.2 with ⟨rfl, _⟩ | ⟨g1, c1, cur1, rfl, _, hh1, _⟩
  · simp [Value.ownBlock]
  · simp [Value.ownBlock]
    rintro rfl
    unfold Whole at h'
    rw [hh1] at h'
    injection h' with h'
    injection h' with _ ht
    exact hne ht
theorem own_ne {w : World} {base base' e e' k k' n n' : Nat} {v v' : Value} {xs xs' : List Value} (h : w.ownsRow base e k v n xs) (h' : w.ownsRow base' e' k' v' n' xs') (hne : e ≠ e') : v.ownBlock = none ∨ v.ownBlock ≠ v'.ownBlock := by
  cases hv : v'.ownBlock with
  | none =>
    cases hu : v.ownBlock with
    | none => exact .inl rfl
    | some g => exact .inr (by simp)
  | some g => exact .inr (own_apart h h' hne hv)
theorem own_base {w : World} {base base' e k n : Nat} {v : Value} {xs : List Value} (h : w.ownsRow base e k v n xs) (hb : base' ≤ base) : w.ownsRow base' e k v n xs := by
  rcases h.2 with h2 | ⟨g, cap, cur, hv, hg, r⟩
  · exact ⟨h.1, .inl h2⟩
  · exact ⟨h.1, .inr ⟨g, cap, cur, hv, Nat.le_trans hb hg, r⟩⟩
theorem Whole.grown {w w' : World} {g t : Nat} {cs : Array Value} {row : Option Nat} (h : Whole w g t cs) (hg : w.grownBy w' row) (hne : some g ≠ row) : Whole w' g t cs := (hg.block g h.lt hne).trans h
theorem below_grown {B : Nat} {a w w' : World} {row : Option Nat} (h : Below B a w) (hg : w.grownBy w' row) (hB : B ≤ w.heap.size) (hr : ∀ k, row = some k → B ≤ k) : Below B a w' := h.grown hg hB hr

section
variable {α : Type} {enc : α → List Value} {k : Nat}
theorem flat_take (hk : ∀ x, (enc x).length = k) : ∀ (xs : List α) (i : Nat), flat enc (xs.take i) = (flat enc xs).take (i * k)
  | [], i => by simp [flat]
  | x :: xs, 0 => by simp [flat]
  | x :: xs, i + 1 => by
    rw [List.take_succ_cons, flat_cons, flat_cons, flat_take hk xs i, List.take_append, hk, show (i + 1) * k - k = i * k from by rw [Nat.succ_mul]; omega,
      List.take_of_length_le (l := enc x) (by rw [hk, Nat.succ_mul]; omega)]
theorem flat_drop (hk : ∀ x, (enc x).length = k) : ∀ (xs : List α) (i : Nat), flat enc (xs.drop i) = (flat enc xs).drop (i * k)
  | [], i => by simp [flat]
  | x :: xs, 0 => by simp [flat]
  | x :: xs, i + 1 => by
    rw [List.drop_succ_cons, flat_cons, flat_drop hk xs i, List.drop_append, hk, show (i + 1) * k - k = i * k from by rw [Nat.succ_mul]; omega,
      List.drop_eq_nil_of_le (as := enc x) (by rw [hk, Nat.succ_mul]; omega), List.nil_append]
theorem flat_erase (hk : ∀ x, (enc x).length = k) (xs : List α) (i : Nat) : flat enc (xs.eraseIdx i) = (flat enc xs).take (i * k) ++ (flat enc xs).drop ((i + 1) * k) := by
  rw [List.eraseIdx_eq_take_drop_succ, flat_append, flat_take hk, flat_drop hk]
end
end Go.Proofs.Ythbhjnmkbmmcnaa
