/- The laws FragBack and FragMixed at the values that come in. -/
import Derived.Test.YtaopomedbbcgcaaFrU
import Derived.Test.YtaopomedbbcgcaaOpen
namespace Go.Proofs.Ytaopomedbbcgcaa
open Go.RowKit
theorem u32_of {x : Int} (h : (Lit.int .u32 x).wf = true) : 0 ≤ x ∧ x < 4294967296 := by
  have g0 : 0 ≤ x ∧ x ≤ 4294967295 := by simpa [Lit.wf, IntKind.min, IntKind.max, IntKind.bits, IntKind.signed] using h
  omega
theorem fragBack_walk (a : ByteArray) (most first st : Int) (fr : Bool) (A : Option Addr) (n c : Nat) (z : List Int) (w : World) (hs : a.size ≤ maxLen) (w1 : (Lit.int .i64 most).wf = true) (w2 : (Lit.int .u32 first).wf = true) (_w3 : (Lit.int .u16 st).wf = true) (h : IsRow .i64 w A n c z) :
    Calls Try.prog 5 #[.string a, .int .i64 most, .int .u32 first, .int .u16 st, .bool fr, .slice A n c] w fun e w' => e = .returned (.bool true) ∧ Below w.heap.size w w' := by
  have k := fragBack_any a.data.toList most first st fr A n c (z.take n) w hs (bounds_i64 w1).1 (bounds_i64 w1).2 (u32_of w2) h.ints.lst (fun x hx => bounds_i64 (h.ints.wf x hx))
  rw [bs_eta] at k
  exact k
theorem fragMixed_walk (a b : ByteArray) (most first : Int) (A : Option Addr) (n c : Nat) (z : List Int) (w : World) (hs : a.size ≤ maxLen) (ht : b.size ≤ maxLen) (w1 : (Lit.int .i64 most).wf = true) (w2 : (Lit.int .u32 first).wf = true) (h : IsRow .i64 w A n c z) :
    Calls Try.prog 4 #[.string a, .string b, .int .i64 most, .int .u32 first, .slice A n c] w fun e w' => e = .returned (.bool true) ∧ Below w.heap.size w w' := by
  have k := fragMixed_any a.data.toList b.data.toList most first A n c (z.take n) w hs ht (bounds_i64 w1).1 (bounds_i64 w1).2 (u32_of w2) h.ints.lst (fun x hx => bounds_i64 (h.ints.wf x hx))
  rw [bs_eta, bs_eta] at k
  exact k
end Go.Proofs.Ytaopomedbbcgcaa
