/- Numbers sorted by how far they are above one, and the rows in them: of the program. -/
import Derived.Test.YthbhjnmkbmmcnaaGtS
import Derived.Test.YthbhjnmkbmmcnaaGtC
namespace Go.Proofs.Ythbhjnmkbmmcnaa
open Go.RowKit
open Go.Proofs.Ythbhjnmkbmmcnaa.Ser
set_option linter.unusedVariables false
set_option maxRecDepth 100000

theorem ins_len (fr x : Int) : ∀ l : List Int, (ins fr x l).length ≤ l.length + 1
  | [] => by simp [ins]
  | y :: l => by
    unfold ins
    have := ins_len fr x l
    split
    · simp only [List.length_cons]; omega
    · split <;> simp
theorem srt_len (fr : Int) (l : List Int) : (srt fr l).length ≤ l.length := by
  have : ∀ (l s : List Int), (l.foldl (fun s x => ins fr x s) s).length ≤ l.length + s.length := fun l => by
    induction l with
    | nil => intro s; simp
    | cons x l ih =>
      intro s
      have := ih (ins fr x s)
      have := ins_len fr x s
      simp only [List.foldl_cons, List.length_cons]
      omega
  simpa [srt] using this l []
theorem ru_srt {fr : Int} {l : List Int} (h : ∀ y ∈ l, RU y) : ∀ y ∈ srt fr l, RU y := fun y hy => h y ((mem_srt h).1 hy)

theorem sorted_w (A : Option Addr) (n c : Nat) (fr : Int) (xs : List Int) (w : World) (hL : Lst (ic .u32) 1 w w.heap.size A n xs) (hn : n ≤ 100000) (hA : okA A n) (hx : ∀ y ∈ xs, RU y) {V : Nat → Prop} :
    Calls Try.prog 43 #[.slice A n c, .int .u32 fr] w
      fun e w' => ∃ v N, e = .returned v ∧ (∃ A' m c', m = (srt fr xs).length ∧ v = .slice A' m c' ∧ N = [.row A' m c' 22 1 (flat (ic .u32) (srt fr xs))]) ∧ New V N w w' := by
  have hl := hL.len
  refine enterW (fun _ => False) _ Try.func43 rfl (by simp only [Try.ntmps43, List.length_cons, List.length_nil, Nat.reduceAdd, Nat.reduceSub]; rfl) ?_
  refine WC.addVw (ic_len .u32) hL ?_
  repeat' (first
    | refine goS ?_
    | ((with_reducible refine WL.isN_call ?_); first | refine WL.step rfl (StepTo.callN [] (us := [.slice A n c]) rfl rfl rfl rfl rfl (by kernel_rfl) (fun w hw => cloneI_w A n c xs w (hw.lst 1 (ic_len .u32) (by omega) rfl) (by omega) hA) ?_))
    | ((with_reducible refine WL.isN_box ?_); first | refine WL.step rfl (StepTo.boxA rfl rfl rfl rfl (fun _ => ?_)) | refine WL.step rfl (StepTo.box1 rfl rfl rfl rfl rfl (fun _ => ?_)))
    | with_reducible refine WC.block ?_
    | (refine WC.cond rfl (fun hc => ?_) (fun hc => ?_) <;> (try first | (with_reducible replace hc := of_decide_eq_true hc) | (with_reducible replace hc := of_decide_eq_false hc) | (with_reducible replace hc := eqT hc) | (with_reducible replace hc := eqF hc) | (with_reducible replace hc := neT hc) | (with_reducible replace hc := neF hc) | (with_reducible replace hc := noT hc) | (with_reducible replace hc := noF hc)) <;> (try (exfalso; omega))))
  rintro v N ⟨A7, c7, rfl, rfl⟩
  rename_i bf
  repeat' (first
    | refine goS ?_
    | ((with_reducible refine WL.isN_call ?_); first | refine WL.step rfl (StepTo.callP (us := [.slice A7 n c7, .func (.func 53) #[] #[.pointer (some ⟨bf, 0, none⟩)]]) [0] [1, 2] ⟨by decide, rfl⟩ rfl ⟨by decide, rfl⟩ rfl rfl rfl rfl rfl rfl (by kernel_rfl) (fun w hw hS => sort_w A7 n c7 bf 22 fr xs w hS hl (by omega) (hw.holds _ (List.mem_of_getElem? (rfl : (_ : List Item)[1]? = _))) (fun g hg e => (hw.pair (i := 0) (j := 1) rfl rfl (by decide)).ne rfl g (by rw [hg]; rfl) (by rw [← e]; rfl))) ?_))
    | ((with_reducible refine WL.isN_box ?_); first | refine WL.step rfl (StepTo.boxA rfl rfl rfl rfl (fun _ => ?_)) | refine WL.step rfl (StepTo.box1 rfl rfl rfl rfl rfl (fun _ => ?_)))
    | with_reducible refine WC.block ?_
    | (refine WC.cond rfl (fun hc => ?_) (fun hc => ?_) <;> (try first | (with_reducible replace hc := of_decide_eq_true hc) | (with_reducible replace hc := of_decide_eq_false hc) | (with_reducible replace hc := eqT hc) | (with_reducible replace hc := eqF hc) | (with_reducible replace hc := neT hc) | (with_reducible replace hc := neF hc) | (with_reducible replace hc := noT hc) | (with_reducible replace hc := noF hc)) <;> (try (exfalso; omega))))
  rintro v N ⟨ys, rfl, rfl, hp, hs⟩
  have hyl : ys.length = n := by rw [hp.length_eq, hl]
  have hc : cmpct ys = srt fr xs := cmpct_srt hx hp hs
  repeat' (first
    | refine goS ?_
    | ((with_reducible refine WL.isN_call ?_); first | refine WL.step rfl (StepTo.callP (us := [.slice A7 n c7]) [0] [1, 2] ⟨by decide, rfl⟩ rfl ⟨by decide, rfl⟩ rfl rfl rfl rfl rfl rfl (by kernel_rfl) (fun w hw hS => compact_w A7 n c7 ys w hS hyl (by omega)) ?_))
    | ((with_reducible refine WL.isN_box ?_); first | refine WL.step rfl (StepTo.boxA rfl rfl rfl rfl (fun _ => ?_)) | refine WL.step rfl (StepTo.box1 rfl rfl rfl rfl rfl (fun _ => ?_)))
    | with_reducible refine WC.block ?_
    | (refine WC.cond rfl (fun hc => ?_) (fun hc => ?_) <;> (try first | (with_reducible replace hc := of_decide_eq_true hc) | (with_reducible replace hc := of_decide_eq_false hc) | (with_reducible replace hc := eqT hc) | (with_reducible replace hc := eqF hc) | (with_reducible replace hc := neT hc) | (with_reducible replace hc := neF hc) | (with_reducible replace hc := noT hc) | (with_reducible replace hc := noF hc)) <;> (try (exfalso; omega))))
  rintro v N ⟨k, hk, rfl, rfl⟩
  repeat' (first
    | refine goS ?_
    | ((with_reducible refine WL.isN_box ?_); first | refine WL.step rfl (StepTo.boxA rfl rfl rfl rfl (fun _ => ?_)) | refine WL.step rfl (StepTo.box1 rfl rfl rfl rfl rfl (fun _ => ?_)))
    | with_reducible refine WC.block ?_
    | (refine WC.cond rfl (fun hc => ?_) (fun hc => ?_) <;> (try first | (with_reducible replace hc := of_decide_eq_true hc) | (with_reducible replace hc := of_decide_eq_false hc) | (with_reducible replace hc := eqT hc) | (with_reducible replace hc := eqF hc) | (with_reducible replace hc := neT hc) | (with_reducible replace hc := neF hc) | (with_reducible replace hc := noT hc) | (with_reducible replace hc := noF hc)) <;> (try (exfalso; omega))))
  rw [hc] at hk
  rw [hc]
  exact WQ.body (Reads.tmp rfl rfl) fun w' hw' => ⟨_, _, rfl, ⟨A7, k, c7, hk, rfl, rfl⟩, (hw'.pick (idx := [0]) ⟨by decide, rfl⟩).toNew (by simp [Item.mine])⟩
end Go.Proofs.Ythbhjnmkbmmcnaa
