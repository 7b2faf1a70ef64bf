/- What the package order computes, in plain Lean: no program in sight. -/
import Derived.Test.YtegefnidhdicdaaMsg
namespace Go.Proofs.Ytegefnidhdicdaa

/-- What waits of a stream, from its next number on, one by one: the next number, what still waits, what is told. -/
def toldF (s : Int) : Nat → Int → List Msg → Int × List Msg × List Msg
  | 0, x, ms => (x, ms, [])
  | f + 1, x, ms =>
    match ms.find? (fun m => m.stream == s && m.ssn == x) with
    | none => (x, ms, [])
    | some m => ((toldF s f ((x + 1) % 65536) (ms.eraseIdx (ms.findIdx (fun m => m.stream == s && m.ssn == x)))).1,
        (toldF s f ((x + 1) % 65536) (ms.eraseIdx (ms.findIdx (fun m => m.stream == s && m.ssn == x)))).2.1,
        m :: (toldF s f ((x + 1) % 65536) (ms.eraseIdx (ms.findIdx (fun m => m.stream == s && m.ssn == x)))).2.2)

theorem toldF_none {s x : Int} {f : Nat} {ms : List Msg} (h : ∀ j (h : j < ms.length), (ms[j].stream == s && ms[j].ssn == x) = false) : toldF s f x ms = (x, ms, []) := by
  cases f with
  | zero => rfl
  | succ f =>
    have hn : ms.find? (fun m => m.stream == s && m.ssn == x) = none := by
      rw [List.find?_eq_none]
      intro m hm
      obtain ⟨j, hj, rfl⟩ := List.getElem_of_mem hm
      simpa using h j hj
    rw [toldF, hn]

theorem toldF_some {s x : Int} {f i : Nat} {ms : List Msg} {m : Msg} (hi : ms.findIdx (fun m => m.stream == s && m.ssn == x) = i) (hm : ms[i]? = some m) :
    toldF s (f + 1) x ms = ((toldF s f ((x + 1) % 65536) (ms.eraseIdx i)).1, (toldF s f ((x + 1) % 65536) (ms.eraseIdx i)).2.1, m :: (toldF s f ((x + 1) % 65536) (ms.eraseIdx i)).2.2) := by
  have hf : ms.find? (fun m => m.stream == s && m.ssn == x) = some m := by
    obtain ⟨hl, he⟩ := List.getElem?_eq_some_iff.1 hm
    subst hi
    rw [List.find?_eq_some_iff_getElem]
    refine ⟨?_, ms.findIdx (fun m => m.stream == s && m.ssn == x), hl, he, fun j hj => ?_⟩
    · rw [← he]
      exact List.findIdx_getElem (w := hl)
    · have := List.not_of_lt_findIdx hj
      simp at this ⊢
      exact Decidable.or_iff_not_imp_left.2 (fun h => by simp at h; exact this h)
  rw [toldF, hf, hi]
end Go.Proofs.Ytegefnidhdicdaa
