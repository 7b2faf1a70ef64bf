/- Put in plain Lean: what came waits, or is told. -/
import Derived.Test.YtegefnidhdicdaaOrdLaw
namespace Go.Proofs.Ytegefnidhdicdaa
open Go.RowKit
set_option linter.unusedVariables false

theorem putF_perm {next : List Int} {wait : List Msg} {m : Msg} (h0 : (putF next wait m).1 = 0) :
    m.stream < next.length ∧ List.Perm ((putF next wait m).2.2.2 ++ (putF next wait m).2.2.1) (wait ++ [m]) := by
  unfold putF at h0 ⊢
  split at h0
  · simp at h0
  · rename_i h1
    rw [if_neg h1]
    refine ⟨by omega, ?_⟩
    split at h0
    · rename_i h2
      rw [if_pos h2]
      exact List.perm_append_comm
    · rename_i h2
      rw [if_neg h2]
      split at h0
      · simp at h0
      · rename_i h3
        rw [if_neg h3]
        exact toldF_perm _ _ _ _
theorem bytesF_perm {a b : List Msg} (h : List.Perm a b) : bytesF a = bytesF b := by
  induction h with
  | nil => rfl
  | cons x _ ih => simp only [bytesF, List.map_cons, List.sum_cons] at ih ⊢; omega
  | swap x y l => simp only [bytesF, List.map_cons, List.sum_cons]; omega
  | trans _ _ i1 i2 => exact i1.trans i2
theorem bytesF_append (a b : List Msg) : bytesF (a ++ b) = bytesF a + bytesF b := by simp [bytesF]
theorem bytesF_take (l : List Msg) (k : Nat) : bytesF (l.take k) ≤ bytesF l := by
  have := bytesF_append (l.take k) (l.drop k)
  rw [List.take_append_drop] at this
  omega
theorem putF_bytes {next : List Int} {wait : List Msg} {m : Msg} (h0 : (putF next wait m).1 = 0) : bytesF (putF next wait m).2.2.2 + bytesF (putF next wait m).2.2.1 = bytesF wait + m.text.size := by
  have := bytesF_perm (putF_perm h0).2
  rw [bytesF_append, bytesF_append] at this
  simpa [bytesF] using this
theorem waits_three {l : List Msg} (h : ∀ m ∈ l, 0 ≤ m.stream ∧ m.stream ≤ 2) : waitsF 0 l + waitsF 1 l + waitsF 2 l = l.length := by
  induction l with
  | nil => rfl
  | cons x l ih =>
    have := ih fun m hm => h m (by simp [hm])
    obtain ⟨h0, h1⟩ := h x (by simp)
    have hx : x.stream = 0 ∨ x.stream = 1 ∨ x.stream = 2 := by omega
    simp only [waitsF, List.countP_cons, List.length_cons] at this ⊢
    rcases hx with hx | hx | hx <;> simp [hx] <;> omega
end Go.Proofs.Ytegefnidhdicdaa
