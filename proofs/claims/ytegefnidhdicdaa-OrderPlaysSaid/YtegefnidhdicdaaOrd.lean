/- The functions of the package order: one contract a function. -/
import Derived.Test.YtegefnidhdicdaaMsgLib
import Derived.Test.YtegefnidhdicdaaU16
import Derived.Deep.RegionHeld3
namespace Go.Proofs.Ytegefnidhdicdaa
open Go.RowKit
set_option linter.unusedVariables false

/-- The signed distance of 16 bits. -/
def sd16 (d : Int) : Int := IntKind.i16.wrap (IntKind.u16.wrap d)
theorem sd16_eq (d : Int) : sd16 d = (d + 32768) % 65536 - 32768 := by
  unfold sd16
  simp [IntKind.wrap, IntKind.bits, IntKind.signed]
  omega
theorem sd16_lo (d : Int) : -32768 ≤ sd16 d := by rw [sd16_eq]; omega
theorem sd16_hi (d : Int) : sd16 d ≤ 32767 := by rw [sd16_eq]; omega

theorem dist16_any (a b : Int) (w : World) :
    Calls Try.prog 33 #[.int .u16 a, .int .u16 b] w fun e w' => e = .returned (.int .i64 (sd16 (b - a))) ∧ w = w' := by
  go_enter Try.func33, Try.ntmps33
  go_wp2
  go_ret
  exact ⟨ret_int' (IntWalk.wrap64_in _ ⟨by have := sd16_lo (b - a); unfold sd16 at this; omega, by have := sd16_hi (b - a); unfold sd16 at this; omega⟩), rfl⟩

/-- Is a number's turn over? -/
def lateB (n next : Int) : Bool := decide (sd16 (n - next) < 0)
theorem late_any (n nx : Int) (w : World) :
    Calls Try.prog 24 #[.int .u16 n, .int .u16 nx] w fun e w' => e = .returned (.bool (lateB n nx)) ∧ w = w' := by
  go_enter Try.func24, Try.ntmps24
  go_wp2_with fail
  refine (dist16_any _ _ _).mono ?_
  rintro e w1 ⟨rfl, rfl⟩
  go_wp2
  go_ret
  exact ⟨rfl, rfl⟩

theorem find1_any (m : Msg) (s x : Int) (bs bx : Nat) (w : World) (hs : w.cell? ⟨bs, 0, none⟩ = some (.int .u16 s)) (hx : w.cell? ⟨bx, 0, none⟩ = some (.int .u16 x)) (ls : bs < w.heap.size) (lx : bx < w.heap.size) :
    Calls Try.prog 35 #[.agg #[.int .u32 m.first, .bool m.free, .int .u16 m.stream, .int .u16 m.ssn, .int .u32 m.ppid, .string m.text], .pointer (some ⟨bs, 0, none⟩), .pointer (some ⟨bx, 0, none⟩)] w fun e w' =>
      e = .returned (.bool (m.stream == s && m.ssn == x)) ∧ Below w.heap.size w w' := by
  cases h : (m.stream == s)
  · go_enter Try.func35, Try.ntmps35
    go_wp2
    go_ret
    exact ⟨rfl, by (repeat (first | with_reducible exact Below.refl _ _ | with_reducible assumption | with_reducible refine below_drewN ?_ _ | with_reducible refine Below.drew ?_ | with_reducible refine Below.alloc ?_ ?_ _ | with_reducible refine Below.setCell ?_ ?_ _ | with_reducible refine bel_call ?_ (by with_reducible assumption) ?_ | (show (_ : Nat) ≤ _; first | omega | (simp <;> omega))))⟩
  · go_enter Try.func35, Try.ntmps35
    go_wp2
    go_ret
    exact ⟨rfl, by (repeat (first | with_reducible exact Below.refl _ _ | with_reducible assumption | with_reducible refine below_drewN ?_ _ | with_reducible refine Below.drew ?_ | with_reducible refine Below.alloc ?_ ?_ _ | with_reducible refine Below.setCell ?_ ?_ _ | with_reducible refine bel_call ?_ (by with_reducible assumption) ?_ | (show (_ : Nat) ≤ _; first | omega | (simp <;> omega))))⟩

theorem ent_find1 (a : Array Value) (W : World) : (callFunc 35 a).run Try.prog W = .ok (.enter 35 a) W := by kernel_rfl

/-- The place of the message of a stream and a number, among those that wait. -/
def findF (s x : Int) (xs : List Msg) : Int := idx (fun m => m.stream == s && m.ssn == x) xs

theorem find_any (vN : Value) (hvN : vN.oneCell' = true) (A : Option Addr) (n c : Nat) (xs : List Msg) (s x : Int) (w : World) (hL : Ms w w.heap.size A n xs) :
    Calls Try.prog 25 #[.agg #[vN, .slice A n c], .int .u16 s, .int .u16 x] w fun e w' => e = .returned (.int .i64 (findF s x xs)) ∧ Below w.heap.size w w' := by
  have hf := indexFunc_any (fun m => m.stream == s && m.ssn == x) 35 #[.pointer (some ⟨w.heap.size + 1, 0, none⟩), .pointer (some ⟨w.heap.size + 1 + 1, 0, none⟩)] A n c xs
    (((w.alloc (.cells #[vN, .slice A n c] 27)).alloc (.cells #[.int .u16 s] 31)).alloc (.cells #[.int .u16 x] 31))
    (by refine Lst.more (hL.call (B' := w.heap.size) ?_ (Nat.le_refl _)) (by simp; omega); (repeat (first | with_reducible exact Below.refl _ _ | with_reducible assumption | with_reducible refine below_drewN ?_ _ | with_reducible refine Below.drew ?_ | with_reducible refine Below.alloc ?_ ?_ _ | with_reducible refine Below.setCell ?_ ?_ _ | with_reducible refine bel_call ?_ (by with_reducible assumption) ?_ | (show (_ : Nat) ≤ _; first | omega | (simp <;> omega))))) ent_find1
    (fun m W hW hz => find1_any m s x _ _ W ((hW.cell (p := ⟨w.heap.size + 1, 0, none⟩) (by simp)).trans (by go_simp)) ((hW.cell (p := ⟨w.heap.size + 1 + 1, 0, none⟩) (by simp)).trans (by go_simp)) (by simp at hz; omega) (by simp at hz; omega))
  have HF := Lib.hid hf
  clear hf hL
  go_enter Try.func25, Try.ntmps25
  go_wp2_with fail
  refine HF.out.mono ?_
  rintro e w1 ⟨rfl, hb1⟩
  have B1 : Below w.heap.size w w1 := by (repeat (first | with_reducible exact Below.refl _ _ | with_reducible assumption | with_reducible refine below_drewN ?_ _ | with_reducible refine Below.drew ?_ | with_reducible refine Below.alloc ?_ ?_ _ | with_reducible refine Below.setCell ?_ ?_ _ | with_reducible refine bel_call ?_ (by with_reducible assumption) ?_ | (show (_ : Nat) ≤ _; first | omega | (simp <;> omega))))
  go_wp2
  go_ret
  exact ⟨rfl, B1⟩
end Go.Proofs.Ytegefnidhdicdaa
