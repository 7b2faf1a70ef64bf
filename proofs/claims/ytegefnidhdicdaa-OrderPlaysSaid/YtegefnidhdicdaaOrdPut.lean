/- 'Put' of the package order. -/
import Derived.Test.YtegefnidhdicdaaOrdTold
import Derived.Deep.RegionLaw
namespace Go.Proofs.Ytegefnidhdicdaa
open Go.RowKit
set_option linter.unusedVariables false

theorem cell_past {w : World} {n : Nat} (h : n < w.heap.size) (ob : Obj) (i : Nat) : (w.alloc ob).cell? ⟨n, i, none⟩ = w.cell? ⟨n, i, none⟩ := World.cell?_alloc_past ob n i h

/-- A slice's address, as a slice that reads as a list has it. -/
def okA (A : Option Addr) (n : Nat) : Prop := (A.isSome = true ∨ n = 0) ∧ ∀ x, A = some x → x.spot = none

/-- A queue in memory: which are next, and what waits. -/
structure QIs (w : World) (B : Nat) (AN AW : Option Addr) (kN nW : Nat) (next : List Int) (wait : List Msg) : Prop where
  next : Us w B AN kN next
  wait : Ms w B AW nW wait
  okN : okA AN kN
  okW : okA AW nW

/-- A slice that was handed in, or one of new memory. -/
def Near (B : Nat) (A A' : Option Addr) : Prop := A' = A ∨ ∀ a, A' = some a → B ≤ a.block
theorem near_none (B : Nat) (A : Option Addr) : Near B A none := .inr (fun a h => by cases h)

/-- What 'Put' computes: an error; which are next; what waits; what is told. -/
def putF (next : List Int) (wait : List Msg) (m : Msg) : Int × List Int × List Msg × List Msg :=
  if (next.length : Int) ≤ m.stream then (12, [], [], [])
  else if m.free = true then (0, next, wait, [m])
  else if lateB m.ssn (next.getD m.stream.toNat 0) = true ∨ 0 ≤ findF m.stream m.ssn wait then (9, [], [], [])
  else (0, next.set m.stream.toNat (toldF m.stream (wait ++ [m]).length (next.getD m.stream.toNat 0) (wait ++ [m])).1,
    (toldF m.stream (wait ++ [m]).length (next.getD m.stream.toNat 0) (wait ++ [m])).2.1, (toldF m.stream (wait ++ [m]).length (next.getD m.stream.toNat 0) (wait ++ [m])).2.2)

def PutRet (AN AW : Option Addr) (r : Int × List Int × List Msg × List Msg) (w : World) (e : Ending) (w' : World) : Prop :=
  ∃ AN' kN' cN' AW' nW' cW' L nl cl, e = .returned (.tuple #[.agg #[.slice AN' kN' cN', .slice AW' nW' cW'], .slice L nl cl, .int .i64 r.1]) ∧ QIs w' w'.heap.size AN' AW' kN' nW' r.2.1 r.2.2.1 ∧
    Near w.heap.size AN AN' ∧ Near w.heap.size AW AW' ∧ Ms w' w'.heap.size L nl r.2.2.2 ∧ okA L nl ∧ Near w.heap.size none L ∧ Below w.heap.size w w'

theorem okA_nil : okA none 0 := ⟨.inr rfl, fun x h => by cases h⟩
theorem QIs.none_ (w : World) (B : Nat) : QIs w B none none 0 0 [] [] := ⟨Lst.nil_, Lst.nil_, okA_nil, okA_nil⟩

theorem put_stream (AN AW : Option Addr) (kN cN nW cW s : Nat) (fi ssn pp : Int) (fr : Bool) (tx : ByteArray) (w : World) (hk : kN ≤ 65535) (hs : kN ≤ s) (h1 : s ≤ 65535) :
    Calls Try.prog 11 #[.agg #[.slice AN kN cN, .slice AW nW cW], .agg #[.int .u32 fi, .bool fr, .int .u16 s, .int .u16 ssn, .int .u32 pp, .string tx]] w (PutRet AN AW (12, [], [], []) w) := by
  go_enter Try.func11, Try.ntmps11
  go_wp2_with fail
  exact bodyPost_ret (v := .tuple #[.agg #[.slice none 0 0, .slice none 0 0], .slice none 0 0, .int .i64 12]) (by simp [results, Try.results11, go_sem]) rfl
    ⟨none, 0, 0, none, 0, 0, none, 0, 0, rfl, QIs.none_ _ _, near_none _ _, near_none _ _, Lst.nil_, okA_nil, near_none _ _, by (repeat (first | with_reducible exact Below.refl _ _ | with_reducible assumption | with_reducible refine below_drewN ?_ _ | with_reducible refine Below.drew ?_ | with_reducible refine Below.alloc ?_ ?_ _ | with_reducible refine Below.setCell ?_ ?_ _ | with_reducible refine bel_call ?_ (by with_reducible assumption) ?_ | (show (_ : Nat) ≤ _; first | omega | (simp <;> omega))))⟩

theorem put_free (AN AW : Option Addr) (kN cN nW cW s : Nat) (fi ssn pp : Int) (tx : ByteArray) (next : List Int) (wait : List Msg) (w : World) (hk : kN ≤ 65535) (hs : s < kN)
    (hN : Us w w.heap.size AN kN next) (hW : Ms w w.heap.size AW nW wait) (oN : okA AN kN) (oW : okA AW nW) :
    Calls Try.prog 11 #[.agg #[.slice AN kN cN, .slice AW nW cW], .agg #[.int .u32 fi, .bool true, .int .u16 s, .int .u16 ssn, .int .u32 pp, .string tx]] w (PutRet AN AW (0, next, wait, [⟨fi, true, s, ssn, pp, tx⟩]) w) := by
  have HN := Lib.hid hN
  have HW := Lib.hid hW
  have HON := Lib.hid oN
  have HOW := Lib.hid oW
  clear hN hW oN oW
  go_enter Try.func11, Try.ntmps11
  go_wp2_with fail
  go_region
  go_wp2
  obtain ⟨⟨B0, z0⟩, _, _, _⟩ := start3 w 27 38 27 #[.slice AN kN cN, .slice AW nW cW] #[.int .u32 fi, .bool true, .int .u16 s, .int .u16 ssn, .int .u32 pp, .string tx] #[.slice AN kN cN, .slice AW nW cW]
  have t4 := (Whole.new (((w.alloc (.cells #[.slice AN kN cN, .slice AW nW cW] 27)).alloc (.cells #[.int .u32 fi, .bool true, .int .u16 s, .int .u16 ssn, .int .u32 pp, .string tx] 38)).alloc (.cells #[.slice AN kN cN, .slice AW nW cW] 27)) 38 #[.int .u32 fi, .bool true, .int .u16 s, .int .u16 ssn, .int .u32 pp, .string tx]).drew
  simp only [World.size_alloc] at t4
  have B4 := (B0.alloc z0 (.cells #[.int .u32 fi, .bool true, .int .u16 s, .int .u16 ssn, .int .u32 pp, .string tx] 38)).drew
  exact bodyPost_ret (v := .tuple #[.agg #[.slice AN kN cN, .slice AW nW cW], .slice (some ⟨w.heap.size + 1 + 1 + 1, 0, none⟩) 1 1, .int .i64 0]) (by simp [results, Try.results11, go_sem]) rfl
    ⟨AN, kN, cN, AW, nW, cW, some ⟨w.heap.size + 1 + 1 + 1, 0, none⟩, 1, 1, rfl, ⟨(HN.out.call B4 (Nat.le_refl _)).more B4.size, (HW.out.call B4 (Nat.le_refl _)).more B4.size, HON.out, HOW.out⟩, .inl rfl, .inl rfl,
      msg_single ⟨fi, true, s, ssn, pp, tx⟩ t4, ⟨.inl rfl, fun x h => by cases h; rfl⟩, .inr (fun a h => by cases h; show w.heap.size ≤ w.heap.size + 1 + 1 + 1; omega), B4⟩

theorem late_yes (n nx : Int) (w : World) (h : lateB n nx = true) : Calls Try.prog 24 #[.int .u16 n, .int .u16 nx] w fun e w' => e = .returned (.bool true) ∧ w = w' := by
  have := late_any n nx w
  rwa [h] at this
theorem late_no (n nx : Int) (w : World) (h : lateB n nx = false) : Calls Try.prog 24 #[.int .u16 n, .int .u16 nx] w fun e w' => e = .returned (.bool false) ∧ w = w' := by
  have := late_any n nx w
  rwa [h] at this

set_option maxHeartbeats 1000000 in
theorem put_late (AN AW : Option Addr) (kN cN nW cW s : Nat) (fi ssn pp x : Int) (tx : ByteArray) (next : List Int) (w : World) (hk : kN ≤ 65535) (hs : s < kN)
    (hN : Us w w.heap.size AN kN next) (hx : next[s]? = some x) (hl : lateB ssn x = true) :
    Calls Try.prog 11 #[.agg #[.slice AN kN cN, .slice AW nW cW], .agg #[.int .u32 fi, .bool false, .int .u16 s, .int .u16 ssn, .int .u32 pp, .string tx]] w (PutRet AN AW (9, [], [], []) w) := by
  obtain ⟨b, off, x', rfl, hb, hx', hc⟩ := u16_at hN hs
  obtain rfl : x' = x := by rw [hx] at hx'; injection hx' with h; exact h.symm
  have HL := Lib.hid hl
  clear hl hx hx' hN
  have q1 : (0 : Int) ≤ (s : Int) := by omega
  have q2 : (s : Int) < (kN : Int) := by omega
  have t0 := start3 w 27 38 27 #[.slice (some ⟨b, off, none⟩) kN cN, .slice AW nW cW] #[.int .u32 fi, .bool false, .int .u16 s, .int .u16 ssn, .int .u32 pp, .string tx] #[.slice none 0 0, .slice none 0 0]
  obtain ⟨⟨B0, z0⟩, k1, k2, k3⟩ := t0
  have c0 := (B0.cell (p := ⟨b, off + s, none⟩) hb).trans hc
  obtain ⟨c1, f1⟩ := k1.reads
  obtain ⟨c2, f2⟩ := k2.reads
  clear k1 k2 k3 hc
  go_enter Try.func11, Try.ntmps11
  go_wp2_with fail
  go_quiet ((go_at_call 24; exact quiet_left' (late_yes _ _ _ HL.out)))
  go_wp2
  exact bodyPost_ret (v := .tuple #[.agg #[.slice none 0 0, .slice none 0 0], .slice none 0 0, .int .i64 9]) (by simp [results, Try.results11, go_sem]) rfl
    ⟨none, 0, 0, none, 0, 0, none, 0, 0, rfl, QIs.none_ _ _, near_none _ _, near_none _ _, Lst.nil_, okA_nil, near_none _ _, by (repeat (first | with_reducible exact Below.refl _ _ | with_reducible assumption | with_reducible refine below_drewN ?_ _ | with_reducible refine Below.drew ?_ | with_reducible refine Below.alloc ?_ ?_ _ | with_reducible refine Below.setCell ?_ ?_ _ | with_reducible refine bel_call ?_ (by with_reducible assumption) ?_ | (show (_ : Nat) ≤ _; first | omega | (simp <;> omega))))⟩

theorem find_is (vN : Value) (hvN : vN.oneCell' = true) (A : Option Addr) (n c : Nat) (xs : List Msg) (s x r : Int) (w : World) (hL : Ms w w.heap.size A n xs) (h : findF s x xs = r) :
    Calls Try.prog 25 #[.agg #[vN, .slice A n c], .int .u16 s, .int .u16 x] w fun e w' => e = .returned (.int .i64 r) ∧ Below w.heap.size w w' := h ▸ find_any vN hvN A n c xs s x w hL

set_option maxHeartbeats 1000000 in
theorem put_found (AN AW : Option Addr) (kN cN nW cW s : Nat) (fi ssn pp x f : Int) (tx : ByteArray) (next : List Int) (wait : List Msg) (w : World) (hk : kN ≤ 65535) (hs : s < kN)
    (hN : Us w w.heap.size AN kN next) (hW : Ms w w.heap.size AW nW wait) (hx : next[s]? = some x) (hl : lateB ssn x = false) (hf : findF s ssn wait = f) (hf0 : 0 ≤ f) :
    Calls Try.prog 11 #[.agg #[.slice AN kN cN, .slice AW nW cW], .agg #[.int .u32 fi, .bool false, .int .u16 s, .int .u16 ssn, .int .u32 pp, .string tx]] w (PutRet AN AW (9, [], [], []) w) := by
  obtain ⟨b, off, x', rfl, hb, hx', hc⟩ := u16_at hN hs
  obtain rfl : x' = x := by rw [hx] at hx'; injection hx' with h; exact h.symm
  have HL := Lib.hid hl
  have HF := Lib.hid hf
  have HW := Lib.hid hW
  clear hl hf hx hx' hN hW
  have q1 : (0 : Int) ≤ (s : Int) := by omega
  have q2 : (s : Int) < (kN : Int) := by omega
  obtain ⟨⟨B0, z0⟩, k1, k2, k3⟩ := start3 w 27 38 27 #[.slice (some ⟨b, off, none⟩) kN cN, .slice AW nW cW] #[.int .u32 fi, .bool false, .int .u16 s, .int .u16 ssn, .int .u32 pp, .string tx] #[.slice none 0 0, .slice none 0 0]
  have c0 := (B0.cell (p := ⟨b, off + s, none⟩) hb).trans hc
  obtain ⟨c1, f1⟩ := k1.reads
  obtain ⟨c2, f2⟩ := k2.reads
  have K3 := Lib.hid k3
  have HB := Lib.hid B0
  clear k1 k2 k3 hc B0
  go_enter Try.func11, Try.ntmps11
  go_wp2_with fail
  go_region_held3 (fun w' => w'.cell? ⟨b, off + s, none⟩ = some (.int .u16 x') ∧ (∀ o, w'.cell? ⟨w.heap.size, o, none⟩ = (#[.slice (some ⟨b, off, none⟩) kN cN, .slice AW nW cW] : Array Value)[o]?) ∧ (∀ o, w'.cell? ⟨w.heap.size + 1, o, none⟩ = (#[.int .u32 fi, .bool false, .int .u16 s, .int .u16 ssn, .int .u32 pp, .string tx] : Array Value)[o]?))
    (first | exact ⟨c0, c1, c2⟩ | go_keep | assumption)
    ((first
      | (go_simp; go_at_call 24; refine (late_no _ _ _ HL.out).mono ?_; rintro e w5 ⟨rfl, rfl⟩)
      | (go_simp; go_at_call 25; refine (find_is _ rfl _ _ _ wait _ _ f _ ((HW.out.call (HB.out.drew) (Nat.le_refl _)).more z0) HF.out).mono ?_; rintro e w6 ⟨rfl, hb6⟩
         have S6 : _ ∧ _ ∧ _ := ⟨(hb6.cell (p := ⟨b, off + s, none⟩) (Nat.lt_of_lt_of_le hb z0)).trans c0, fun o => (hb6.cell (p := ⟨w.heap.size, o, none⟩) (by simp; omega)).trans (c1 o), fun o => (hb6.cell (p := ⟨w.heap.size + 1, o, none⟩) (by simp)).trans (c2 o)⟩
         have K6 := K3.out.drew.call hb6
         have B6 := bel_call HB.out.drew hb6 z0)))
  obtain ⟨c3, f3⟩ := K6.reads
  have l3 := K6.lt
  go_wp2
  exact bodyPost_ret (v := .tuple #[.agg #[.slice none 0 0, .slice none 0 0], .slice none 0 0, .int .i64 9]) (by simp [results, Try.results11, go_sem, c3]) rfl
    ⟨none, 0, 0, none, 0, 0, none, 0, 0, rfl, QIs.none_ _ _, near_none _ _, near_none _ _, Lst.nil_, okA_nil, near_none _ _, by (repeat (first | with_reducible exact Below.refl _ _ | with_reducible assumption | with_reducible refine below_drewN ?_ _ | with_reducible refine Below.drew ?_ | with_reducible refine Below.alloc ?_ ?_ _ | with_reducible refine Below.setCell ?_ ?_ _ | with_reducible refine bel_call ?_ (by with_reducible assumption) ?_ | (show (_ : Nat) ≤ _; first | omega | (simp <;> omega))))⟩

end Go.Proofs.Ytegefnidhdicdaa
