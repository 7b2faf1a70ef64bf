/- A message of the package frag, in plain Lean; and its cells. -/
import Derived.Test.YtegefnidhdicdaaLst
namespace Go.Proofs.Ytegefnidhdicdaa
open Go.RowKit

structure Msg where
  first : Int
  free : Bool
  stream : Int
  ssn : Int
  ppid : Int
  text : ByteArray

def Msg.cs (m : Msg) : List Value := [.int .u32 m.first, .bool m.free, .int .u16 m.stream, .int .u16 m.ssn, .int .u32 m.ppid, .string m.text]
theorem Msg.cs_len (m : Msg) : m.cs.length = 6 := rfl
theorem Msg.cs_inj (a b : Msg) (h : a.cs = b.cs) : a = b := by
  cases a; cases b
  simp [Msg.cs] at h
  simp_all
theorem Msg.cs_one (m : Msg) : ∀ u ∈ m.cs, u.oneCell' = true := by intro u hu; simp [Msg.cs] at hu; rcases hu with rfl | rfl | rfl | rfl | rfl | rfl <;> rfl

abbrev Ms := Lst Msg.cs 6

/-- The cells of element i, one equation a cell. -/
theorem msg_at {w : World} {B : Nat} {A : Option Addr} {n : Nat} {xs : List Msg} (h : Ms w B A n xs) {i : Nat} (hi : i < n) :
    ∃ b off m, A = some ⟨b, off, none⟩ ∧ b < B ∧ xs[i]? = some m ∧
      w.cell? ⟨b, off + i * 6, none⟩ = some (.int .u32 m.first) ∧ w.cell? ⟨b, off + i * 6 + 1, none⟩ = some (.bool m.free) ∧ w.cell? ⟨b, off + i * 6 + 2, none⟩ = some (.int .u16 m.stream) ∧
      w.cell? ⟨b, off + i * 6 + 3, none⟩ = some (.int .u16 m.ssn) ∧ w.cell? ⟨b, off + i * 6 + 4, none⟩ = some (.int .u32 m.ppid) ∧ w.cell? ⟨b, off + i * 6 + 5, none⟩ = some (.string m.text) := by
  obtain ⟨b, off, e, hlt, m, hm, hc⟩ := Lst.get h hi
  exact ⟨b, off, m, e, hlt, hm, hc 0 _ rfl, hc 1 _ rfl, hc 2 _ rfl, hc 3 _ rfl, hc 4 _ rfl, hc 5 _ rfl⟩
/-- A block that holds one message reads as a list of one. -/
theorem msg_single {w : World} {g t : Nat} (m : Msg) (h : Whole w g t #[.int .u32 m.first, .bool m.free, .int .u16 m.stream, .int .u16 m.ssn, .int .u32 m.ppid, .string m.text]) : Ms w w.heap.size (some ⟨g, 0, none⟩) 1 [m] := by
  refine ⟨rfl, by simp [maxLen], fun _ => ⟨g, 0, rfl, h.lt, fun i hi j u hu => ?_⟩⟩
  have hi0 : i = 0 := by simpa using hi
  subst hi0
  simp only [List.getElem_cons_zero] at hu
  rw [show 0 + 0 * 6 + j = j from by omega, h.reads.1 j]
  have : (m.cs.toArray)[j]? = some u := by simpa using hu
  exact this
end Go.Proofs.Ytegefnidhdicdaa
