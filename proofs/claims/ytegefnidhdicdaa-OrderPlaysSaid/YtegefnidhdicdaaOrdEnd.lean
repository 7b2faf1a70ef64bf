/- What 'Put' hands back, once 'told' has answered; and what is plain of 'told'. -/
import Derived.Test.YtegefnidhdicdaaOrdMid
namespace Go.Proofs.Ytegefnidhdicdaa
open Go.RowKit
set_option linter.unusedVariables false

/- What is plain of 'toldF' and 'putF'. -/
theorem toldF_range (s : Int) : ∀ (f : Nat) (x : Int) (ms : List Msg), 0 ≤ x → x ≤ 65535 → 0 ≤ (toldF s f x ms).1 ∧ (toldF s f x ms).1 ≤ 65535
  | 0, x, ms, h0, h1 => ⟨h0, h1⟩
  | f + 1, x, ms, h0, h1 => by
    rw [toldF]
    split
    · exact ⟨h0, h1⟩
    · exact toldF_range s f _ _ (by omega) (by omega)
theorem toldF_perm (s : Int) : ∀ (f : Nat) (x : Int) (ms : List Msg), List.Perm ((toldF s f x ms).2.2 ++ (toldF s f x ms).2.1) ms
  | 0, x, ms => by simp [toldF]
  | f + 1, x, ms => by
    rw [toldF]
    split
    · simp
    · rename_i m hm
      rw [List.find?_eq_some_iff_getElem] at hm
      obtain ⟨hp, i, hi, he, hlt⟩ := hm
      have hidx : ms.findIdx (fun m => m.stream == s && m.ssn == x) = i := by
        rw [List.findIdx_eq hi]
        exact ⟨by rw [he]; exact hp, fun j hj => by have := hlt j hj; simpa [Decidable.imp_iff_not_or] using this⟩
      rw [hidx]
      have h1 := toldF_perm s f ((x + 1) % 65536) (ms.eraseIdx i)
      have h2 : List.Perm (m :: ms.eraseIdx i) ms := by
        rw [← he]
        have h3 : ms = ms.take i ++ ms[i] :: ms.drop (i + 1) := by rw [List.getElem_cons_drop, List.take_append_drop]
        rw [List.eraseIdx_eq_take_drop_succ]
        exact (List.perm_middle.symm).trans (by rw [← h3])
      exact (List.Perm.cons m h1).trans h2
theorem toldF_wait {s : Int} {f : Nat} {x : Int} {ms : List Msg} {m : Msg} (h : m ∈ (toldF s f x ms).2.1) : m ∈ ms := (toldF_perm s f x ms).mem_iff.1 (by simp [h])
theorem toldF_told {s : Int} {f : Nat} {x : Int} {ms : List Msg} {m : Msg} (h : m ∈ (toldF s f x ms).2.2) : m ∈ ms := (toldF_perm s f x ms).mem_iff.1 (by simp [h])
theorem toldF_len (s : Int) (f : Nat) (x : Int) (ms : List Msg) : (toldF s f x ms).2.2.length + (toldF s f x ms).2.1.length = ms.length := by
  have := (toldF_perm s f x ms).length_eq
  simpa using this


theorem flat_snoc {α : Type} {enc : α → List Value} (xs : List α) (x : α) : flat enc (xs ++ [x]) = flat enc xs ++ enc x := by
  rw [flat_append]; congr 1; simp [flat]
theorem own_okA {w : World} {base e k n c : Nat} {A : Option Addr} {xs : List Value} (h : w.ownsRow base e k (.slice A n c) n xs) : okA A n := by
  rcases h.2 with ⟨h0, h1⟩ | ⟨g, cap, cur, hv, _⟩
  · cases h0; exact okA_nil
  · simp only [Value.slice.injEq] at hv
    obtain ⟨rfl, _⟩ := hv
    exact ⟨.inl rfl, fun x hx => by injection hx with hx; rw [← hx]⟩

theorem own_near {w : World} {base e k n c B : Nat} {A A0 : Option Addr} {xs : List Value} (h : w.ownsRow base e k (.slice A n c) n xs) (hB : B ≤ base) : Near B A0 A :=
  .inr (fun a ha => by subst ha; exact Nat.le_trans hB (h.lt a.block (by
    rcases h.2 with ⟨h0, _⟩ | ⟨g, cap, cur, hv, _⟩
    · cases h0
    · injection hv with hv; injection hv with hv; subst hv; rfl)).1)

theorem Whole.two {w : World} {r t : Nat} {a b : Value} (hw : Whole w r t #[a, b]) (x y : Value) : Whole ((w.setCell ⟨r, 0, none⟩ x).setCell ⟨r, 1, none⟩ y) r t #[x, y] := by
  have := (hw.here 0 x).here 1 y
  simpa using this

theorem put_end (AN AW : Option Addr) (base' base gN kN c7 : Nat) (Az Lz : Option Addr) (cz clz : Nat) (nx : List Int) (wt tl : List Msg) (x y : Value) (cs : Array Value) (ob : Obj) (w w10 : World) (hk : kN ≤ 65535) (hb1 : w.heap.size ≤ base) (hb2 : w.heap.size ≤ base') (hw : wt.length ≤ 1000000) (ht : tl.length ≤ 1000000)
    (R10 : Whole w10 (w.heap.size + 1 + 1) 27 cs) (ON : w10.ownsRow base 31 1 (.slice (some ⟨gN, 0, none⟩) kN c7) kN (flat u16c nx)) (OW : w10.ownsRow base 38 6 (.slice Az wt.length cz) wt.length (flat Msg.cs wt))
    (OL : w10.ownsRow base' 38 6 (.slice Lz tl.length clz) tl.length (flat Msg.cs tl)) (B10 : Below w.heap.size w w10) :
    PutRet AN AW (0, nx, wt, tl) w (.returned (.tuple #[.agg #[.slice (some ⟨gN, 0, none⟩) kN c7, .slice Az wt.length cz], .slice Lz tl.length clz, .int .i64 0]))
      (((w10.setCell ⟨w.heap.size + 1 + 1, 0, none⟩ x).setCell ⟨w.heap.size + 1 + 1, 1, none⟩ y).alloc ob) := by
  have n1 := own_whole ON R10 (by decide)
  have n2 := own_whole OW R10 (by decide)
  have n3 := own_whole OL R10 (by decide)
  have z1 := B10.size
  have q1 := (own_far (p := ⟨w.heap.size + 1 + 1, 1, none⟩) (own_far (p := ⟨w.heap.size + 1 + 1, 0, none⟩) ON n1 x) n1 y).alloc ob
  have q2 := (own_far (p := ⟨w.heap.size + 1 + 1, 1, none⟩) (own_far (p := ⟨w.heap.size + 1 + 1, 0, none⟩) OW n2 x) n2 y).alloc ob
  have q3 := (own_far (p := ⟨w.heap.size + 1 + 1, 1, none⟩) (own_far (p := ⟨w.heap.size + 1 + 1, 0, none⟩) OL n3 x) n3 y).alloc ob
  refine ⟨some ⟨gN, 0, none⟩, kN, c7, Az, wt.length, cz, Lz, tl.length, clz, rfl, ⟨Lst.of_own u16c_len (by omega) q1 (by simp only [maxLen]; omega), Lst.of_own Msg.cs_len (by omega) q2 (by simp only [maxLen]; omega), own_okA q1, own_okA q2⟩,
    own_near q1 hb1, own_near q2 hb1, Lst.of_own Msg.cs_len (by omega) q3 (by simp only [maxLen]; omega), own_okA q3, own_near q3 hb2, ?_⟩
  exact ((B10.setCell (p := ⟨w.heap.size + 1 + 1, 0, none⟩) (by simp; omega) x).setCell (p := ⟨w.heap.size + 1 + 1, 1, none⟩) (by simp; omega) y).alloc (by simpa [World.setCell] using z1) ob
end Go.Proofs.Ytegefnidhdicdaa
