/- The examples of the laws of order stand. -/
import Derived.Test.YtegefnidhdicdaaOrdPutAny
import Derived.Test.YtegefnidhdicdaaOrdSmall
namespace Go.Proofs.Ytegefnidhdicdaa
open Go.RowKit
set_option linter.unusedVariables false

theorem QIs.call {w w' : World} {B B' : Nat} {AN AW : Option Addr} {kN nW : Nat} {next : List Int} {wait : List Msg} (h : QIs w B AN AW kN nW next wait) (hb : Below B' w w') (hB : B ≤ B') : QIs w' B AN AW kN nW next wait :=
  ⟨h.next.call hb hB, h.wait.call hb hB, h.okN, h.okW⟩
theorem QIs.more {w : World} {B B' : Nat} {AN AW : Option Addr} {kN nW : Nat} {next : List Int} {wait : List Msg} (h : QIs w B AN AW kN nW next wait) (hB : B ≤ B') : QIs w B' AN AW kN nW next wait :=
  ⟨h.next.more hB, h.wait.more hB, h.okN, h.okW⟩
theorem QIs.to {w w' : World} {AN AW : Option Addr} {kN nW : Nat} {next : List Int} {wait : List Msg} (h : QIs w w.heap.size AN AW kN nW next wait) (hb : Below w.heap.size w w') : QIs w' w'.heap.size AN AW kN nW next wait := (h.call hb (Nat.le_refl _)).more hb.size
theorem newQ {w : World} {base g k c : Nat} (h : w.ownsRow base 31 1 (.slice (some ⟨g, 0, none⟩) k c) k (flat u16c (List.replicate k 0))) (hk : k ≤ 16) :
    QIs w w.heap.size (some ⟨g, 0, none⟩) none k 0 (List.replicate k 0) [] :=
  ⟨Lst.of_own u16c_len (by omega) h (by simp only [maxLen]; omega), Lst.nil_, own_okA h, okA_nil⟩

def mB : Msg := ⟨0, false, 0, 1, 0, ⟨#[98]⟩⟩
def mX : Msg := ⟨0, false, 1, 0, 0, ⟨#[120]⟩⟩
def mA : Msg := ⟨0, false, 0, 0, 0, ⟨#[97]⟩⟩
theorem ex1 : putF (List.replicate 2 0) [] mB = (0, [0, 0], [mB], []) := by rfl
theorem ex2 : putF [0, 0] [mB] mX = (0, [0, 1], [mB], [mX]) := by rfl
theorem ex3 : putF [0, 1] [mB] mA = (0, [2, 1], [], [mA, mB]) := by rfl

theorem putOf {AN AW : Option Addr} {kN nW : Nat} (cN cW : Nat) {m : Msg} {next : List Int} {wait : List Msg} {r : Int × List Int × List Msg × List Msg} {w : World} (e : putF next wait m = r) (hq : QIs w w.heap.size AN AW kN nW next wait) (hk : next.length ≤ 65535) (hn : wait.length < 1000000) (hs0 : 0 ≤ m.stream) (hs1 : m.stream ≤ 65535)
    (hr : ∀ x ∈ next, 0 ≤ x ∧ x ≤ 65535) :
    Calls Try.prog 11 #[.agg #[.slice AN kN cN, .slice AW nW cW], .agg #[.int .u32 m.first, .bool m.free, .int .u16 m.stream, .int .u16 m.ssn, .int .u32 m.ppid, .string m.text]] w (PutRet AN AW r w) := e ▸ put_any cN cW m next wait w hq hk hn hs0 hs1 hr

set_option maxHeartbeats 2000000 in
theorem oshown_any (w : World) : Calls Try.prog 8 #[] w fun e w' => e = .returned (.bool true) ∧ Below w.heap.size w w' := by
  go_enter Try.func8, Try.ntmps8
  go_wp2_with fail
  refine (new_yes 2 _ (by omega) (by omega)).mono ?_
  rintro e w1 ⟨g1, c1, rfl, O1, b1⟩
  have z1 := b1.size
  have Q1 := newQ O1 (by omega)
  clear O1
  go_wp2_with fail
  refine (putOf _ _ (m := mB) ex1 (Q1.to (by (repeat (first | with_reducible exact Below.refl _ _ | with_reducible assumption | with_reducible refine below_drewN ?_ _ | with_reducible refine Below.drew ?_ | with_reducible refine Below.alloc ?_ ?_ _ | with_reducible refine Below.setCell ?_ ?_ _ | with_reducible refine bel_call ?_ (by with_reducible assumption) ?_ | (show (_ : Nat) ≤ _; first | omega | (simp <;> omega)))))) (by simp) (by simp) (by decide) (by decide) (by simp)).mono ?_
  rintro e w2 ⟨A2, k2, p2, W2, y2, t2, L2, n2, d2, rfl, Q2, f2, h2, hL2, oL2, v2, b2⟩
  have B2 : Below w.heap.size w w2 := by (repeat (first | with_reducible exact Below.refl _ _ | with_reducible assumption | with_reducible refine below_drewN ?_ _ | with_reducible refine Below.drew ?_ | with_reducible refine Below.alloc ?_ ?_ _ | with_reducible refine Below.setCell ?_ ?_ _ | with_reducible refine bel_call ?_ (by with_reducible assumption) ?_ | (show (_ : Nat) ≤ _; first | omega | (simp <;> omega))))
  have z2 := B2.size
  obtain rfl := hL2.len
  clear Q1 f2 h2 hL2 oL2 v2 b1 b2 z1
  go_wp2_with fail
  refine (putOf _ _ (m := mX) ex2 (Q2.to (by (repeat (first | with_reducible exact Below.refl _ _ | with_reducible assumption | with_reducible refine below_drewN ?_ _ | with_reducible refine Below.drew ?_ | with_reducible refine Below.alloc ?_ ?_ _ | with_reducible refine Below.setCell ?_ ?_ _ | with_reducible refine bel_call ?_ (by with_reducible assumption) ?_ | (show (_ : Nat) ≤ _; first | omega | (simp <;> omega)))))) (by simp) (by simp) (by decide) (by decide) (by simp)).mono ?_
  rintro e w3 ⟨A3, k3, p3, W3, y3, t3, L3, n3, d3, rfl, Q3, f3, h3, hL3, oL3, v3, b3⟩
  have B3 : Below w.heap.size w w3 := by (repeat (first | with_reducible exact Below.refl _ _ | with_reducible assumption | with_reducible refine below_drewN ?_ _ | with_reducible refine Below.drew ?_ | with_reducible refine Below.alloc ?_ ?_ _ | with_reducible refine Below.setCell ?_ ?_ _ | with_reducible refine bel_call ?_ (by with_reducible assumption) ?_ | (show (_ : Nat) ≤ _; first | omega | (simp <;> omega))))
  have z3 := B3.size
  obtain rfl := hL3.len
  clear Q2 f3 h3 hL3 oL3 v3 B2 b3 z2
  go_wp2_with fail
  refine (putOf _ _ (m := mA) ex3 (Q3.to (by (repeat (first | with_reducible exact Below.refl _ _ | with_reducible assumption | with_reducible refine below_drewN ?_ _ | with_reducible refine Below.drew ?_ | with_reducible refine Below.alloc ?_ ?_ _ | with_reducible refine Below.setCell ?_ ?_ _ | with_reducible refine bel_call ?_ (by with_reducible assumption) ?_ | (show (_ : Nat) ≤ _; first | omega | (simp <;> omega)))))) (by simp) (by simp) (by decide) (by decide) (by simp)).mono ?_
  rintro e w4 ⟨A4, k4, p4, W4, y4, t4, L4, n4, d4, rfl, Q4, f4, h4, hL4, oL4, v4, b4⟩
  have B4 : Below w.heap.size w w4 := by (repeat (first | with_reducible exact Below.refl _ _ | with_reducible assumption | with_reducible refine below_drewN ?_ _ | with_reducible refine Below.drew ?_ | with_reducible refine Below.alloc ?_ ?_ _ | with_reducible refine Below.setCell ?_ ?_ _ | with_reducible refine bel_call ?_ (by with_reducible assumption) ?_ | (show (_ : Nat) ≤ _; first | omega | (simp <;> omega))))
  have z4 := B4.size
  obtain rfl := hL4.len
  obtain rfl := Q4.wait.len
  obtain ⟨b, off, m, rfl, hb, hm, g0, g1, g2, g3, g4, g5⟩ := msg_at hL4 (i := 0) (by simp)
  simp at hm
  subst hm
  simp only [mA] at g0 g1 g2 g3 g4 g5
  clear Q3 Q4 f4 h4 hL4 oL4 v4 B3 b4 z3
  go_wp2_with fail
  go_ret
  exact ⟨rfl, by (repeat (first | with_reducible exact Below.refl _ _ | with_reducible assumption | with_reducible refine below_drewN ?_ _ | with_reducible refine Below.drew ?_ | with_reducible refine Below.alloc ?_ ?_ _ | with_reducible refine Below.setCell ?_ ?_ _ | with_reducible refine bel_call ?_ (by with_reducible assumption) ?_ | (show (_ : Nat) ≤ _; first | omega | (simp <;> omega))))⟩
end Go.Proofs.Ytegefnidhdicdaa
