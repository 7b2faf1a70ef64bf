/- The state of a cookie, of the program: the whole. -/
import Derived.Test.YtheilikelcgdmaaCkD
namespace Go.Proofs.Ytheilikelcgdmaa
open Go.RowKit Go.IntWalk
set_option linter.unusedVariables false
set_option linter.unusedSectionVars false
set_option maxRecDepth 100000

set_option maxHeartbeats 4000000 in
theorem read_q (key c : List UInt8) (hkey : key.length ≤ 1000000) (hc : c.length ≤ 1000000) (w : World) : Calls Try.prog 14 #[.string (bs key), .string (bs c)] w
    fun e w' => e = .returned (.tuple #[.agg (Ck.read key c).1.cs.toArray, .int .i64 (Ck.read key c).2]) ∧ Below w.heap.size w w' := by
  by_cases hc32 : c.length < 32
  case pos =>
    have hr : Ck.read key c = (Ck.St.zero, 3) := by rw [Ck.read, if_pos hc32]
    rw [hr]
    refine enterW (fun _ => False) _ Try.func14 rfl (by simp only [Try.ntmps14, List.length_cons, List.length_nil, Nat.reduceAdd, Nat.reduceSub]; rfl) ?_
    repeat' (first
    | refine goS ?_
    | ((with_reducible refine WL.isN_bin ?_); first | refine WL.yld rfl binQ ?_)
    | ((with_reducible refine WL.isN_load ?_); first | refine WL.yld rfl loadQ ?_)
    | ((with_reducible refine WL.isN_build ?_); first | refine WL.yld rfl buildQ ?_)
    | ((with_reducible refine WL.isN_call ?_); first | refine WL.yld rfl (Yld.lenB rfl rfl rfl) ?_ | refine WL.yld rfl lenQ ?_)
    | ((with_reducible refine WL.isN_alloc ?_); first | refine WL.step rfl (StepTo.allocA rfl rfl rfl rfl (fun _ => ?_)) | refine WL.step rfl (StepTo.alloc1 rfl rfl rfl rfl rfl (fun _ => ?_)))
    | ((with_reducible refine WL.isN_store ?_); first | refine WL.step rfl (StepTo.st1 rfl rfl rfl rfl rfl rfl ?_) | refine WL.step rfl (StepTo.stA rfl rfl rfl rfl rfl rfl rfl ?_) | refine WL.step rfl (StepTo.stR rfl rfl rfl rfl rfl rfl rfl ?_))
    | with_reducible refine WC.block ?_
    | (refine WC.cond rfl (fun hc => ?_) (fun hc => ?_) <;> (try first | (with_reducible replace hc := of_decide_eq_true hc) | (with_reducible replace hc := of_decide_eq_false hc) | (with_reducible replace hc := eqT hc) | (with_reducible replace hc := eqF hc) | (with_reducible replace hc := neT hc) | (with_reducible replace hc := neF hc) | (with_reducible replace hc := noT hc) | (with_reducible replace hc := noF hc)) <;> (try (exfalso; omega))))
    exact WQ.body (Reads.two rfl (Res1.cellA rfl rfl rfl rfl (AggAt.box 0 rfl rfl)) (Res1.tmp rfl)) fun w' hw' => ⟨rfl, hw'.ext.below⟩
  have hbl : (c.drop 32).length = c.length - 32 := List.length_drop
  have hck := fun w => check_q key (c.drop 32) (c.take 32) (by omega) (by omega) w
  have hr0 : Ck.read key c = if (Hm.sum key (c.drop 32) == c.take 32) = false then (Ck.St.zero, 5) else if (c.drop 32).length < 53 then (Ck.St.zero, 2)
      else if Ck.val (Ck.cut (c.drop 32) 52 53) ≠ ((c.drop 32).drop 53).length ∨ Ck.right (Ck.parse (c.drop 32)) = false then (Ck.St.zero, 2) else (Ck.parse (c.drop 32), 0) := by
    rw [Ck.read, if_neg hc32]
    by_cases h : Hm.sum key (c.drop 32) = c.take 32
    · simp [h]
    · rw [if_pos h, if_pos (by simpa using h)]
  rw [hr0]
  clear hr0
  generalize (Hm.sum key (c.drop 32) == c.take 32) = ok at *
  obtain ⟨b, hb⟩ : ∃ b, c.drop 32 = b := ⟨_, rfl⟩
  have hbv : Value.string (bs (c.drop 32)) = .string (bs b) := by rw [hb]
  rw [hb] at hbl hck ⊢
  cases ok with
  | false =>
    rw [if_pos rfl]
    refine enterW (fun _ => False) _ Try.func14 rfl (by simp only [Try.ntmps14, List.length_cons, List.length_nil, Nat.reduceAdd, Nat.reduceSub]; rfl) ?_
    repeat' (first
    | refine goS ?_
    | ((with_reducible refine WL.isN_bin ?_); first | refine WL.yld rfl binQ ?_)
    | ((with_reducible refine WK.isN_bin ?_); first | refine WK.yld rfl binQ ?_)
    | ((with_reducible refine WL.isN_load ?_); first | refine WL.yld rfl loadQ ?_)
    | ((with_reducible refine WK.isN_load ?_); first | refine WK.yld rfl loadQ ?_)
    | ((with_reducible refine WL.isN_build ?_); first | refine WL.yld rfl buildQ ?_)
    | ((with_reducible refine WK.isN_build ?_); first | refine WK.yld rfl buildQ ?_)
    | ((with_reducible refine WL.isN_call ?_); first | refine WL.yld rfl (Yld.lenB rfl rfl rfl) ?_ | refine WK.step rfl (Qui.call (v := .bool false) (us := [.string (bs key), .string (bs b), .string (bs (c.take 32))]) rfl rfl rfl (by kernel_rfl) (fun w _ => hck w)) ?_ | refine WL.yld rfl lenQ ?_)
    | ((with_reducible refine WK.isN_call ?_); first | refine WL.yld rfl (Yld.lenB rfl rfl rfl) ?_ | refine WK.step rfl (Qui.call (v := .bool false) (us := [.string (bs key), .string (bs b), .string (bs (c.take 32))]) rfl rfl rfl (by kernel_rfl) (fun w _ => hck w)) ?_ | refine WK.yld rfl lenQ ?_)
    | ((with_reducible refine WL.isN_alloc ?_); first | refine WL.step rfl (StepTo.allocA rfl rfl rfl rfl (fun _ => ?_)) | refine WL.step rfl (StepTo.alloc1 rfl rfl rfl rfl rfl (fun _ => ?_)))
    | ((with_reducible refine WL.isN_store ?_); first | refine WL.step rfl (StepTo.st1 rfl rfl rfl rfl rfl rfl ?_) | refine WL.step rfl (StepTo.stA rfl rfl rfl rfl rfl rfl rfl ?_) | refine WL.step rfl (StepTo.stR rfl rfl rfl rfl rfl rfl rfl ?_))
    | refine WL.yld rfl (Yld.as (Yld.cutLoS (lo := 32) rfl rfl rfl rfl rfl (by omega)) hbv) ?_
    | refine WK.yld rfl (Yld.cutHiS (hi := 32) rfl rfl rfl rfl rfl (by omega)) ?_
    | with_reducible refine WC.block ?_
    | (refine WC.quiet (i := 4) (by kernel_rfl) (by kernel_rfl) ?_)
    | (refine WC.cond rfl (fun hc => ?_) (fun hc => ?_) <;> (try first | (with_reducible replace hc := of_decide_eq_true hc) | (with_reducible replace hc := of_decide_eq_false hc) | (with_reducible replace hc := eqT hc) | (with_reducible replace hc := eqF hc) | (with_reducible replace hc := neT hc) | (with_reducible replace hc := neF hc) | (with_reducible replace hc := noT hc) | (with_reducible replace hc := noF hc)) <;> (try (exfalso; omega))))
    exact WQ.body (Reads.two rfl (Res1.cellA rfl rfl rfl rfl (AggAt.box 1 rfl rfl)) (Res1.tmp rfl)) fun w' hw' => ⟨rfl, hw'.ext.below⟩
  | true =>
    rw [if_neg (by simp)]
    by_cases hb53 : b.length < 53
    case pos =>
      rw [if_pos hb53]
      refine enterW (fun _ => False) _ Try.func14 rfl (by simp only [Try.ntmps14, List.length_cons, List.length_nil, Nat.reduceAdd, Nat.reduceSub]; rfl) ?_
      repeat' (first
    | refine goS ?_
    | ((with_reducible refine WL.isN_bin ?_); first | refine WL.yld rfl binQ ?_)
    | ((with_reducible refine WK.isN_bin ?_); first | refine WK.yld rfl binQ ?_)
    | ((with_reducible refine WL.isN_load ?_); first | refine WL.yld rfl loadQ ?_)
    | ((with_reducible refine WK.isN_load ?_); first | refine WK.yld rfl loadQ ?_)
    | ((with_reducible refine WL.isN_build ?_); first | refine WL.yld rfl buildQ ?_)
    | ((with_reducible refine WK.isN_build ?_); first | refine WK.yld rfl buildQ ?_)
    | ((with_reducible refine WL.isN_call ?_); first | refine WL.yld rfl (Yld.lenB rfl rfl rfl) ?_ | refine WK.step rfl (Qui.call (v := .bool true) (us := [.string (bs key), .string (bs b), .string (bs (c.take 32))]) rfl rfl rfl (by kernel_rfl) (fun w _ => hck w)) ?_ | refine WL.yld rfl lenQ ?_)
    | ((with_reducible refine WK.isN_call ?_); first | refine WL.yld rfl (Yld.lenB rfl rfl rfl) ?_ | refine WK.step rfl (Qui.call (v := .bool true) (us := [.string (bs key), .string (bs b), .string (bs (c.take 32))]) rfl rfl rfl (by kernel_rfl) (fun w _ => hck w)) ?_ | refine WK.yld rfl lenQ ?_)
    | ((with_reducible refine WL.isN_alloc ?_); first | refine WL.step rfl (StepTo.allocA rfl rfl rfl rfl (fun _ => ?_)) | refine WL.step rfl (StepTo.alloc1 rfl rfl rfl rfl rfl (fun _ => ?_)))
    | ((with_reducible refine WL.isN_store ?_); first | refine WL.step rfl (StepTo.st1 rfl rfl rfl rfl rfl rfl ?_) | refine WL.step rfl (StepTo.stA rfl rfl rfl rfl rfl rfl rfl ?_) | refine WL.step rfl (StepTo.stR rfl rfl rfl rfl rfl rfl rfl ?_))
    | refine WL.yld rfl (Yld.as (Yld.cutLoS (lo := 32) rfl rfl rfl rfl rfl (by omega)) hbv) ?_
    | refine WK.yld rfl (Yld.cutHiS (hi := 32) rfl rfl rfl rfl rfl (by omega)) ?_
    | with_reducible refine WC.block ?_
    | (refine WC.quiet (i := 4) (by kernel_rfl) (by kernel_rfl) ?_)
    | (refine WC.cond rfl (fun hc => ?_) (fun hc => ?_) <;> (try first | (with_reducible replace hc := of_decide_eq_true hc) | (with_reducible replace hc := of_decide_eq_false hc) | (with_reducible replace hc := eqT hc) | (with_reducible replace hc := eqF hc) | (with_reducible replace hc := neT hc) | (with_reducible replace hc := neF hc) | (with_reducible replace hc := noT hc) | (with_reducible replace hc := noF hc)) <;> (try (exfalso; omega))))
      exact WQ.body (Reads.two rfl (Res1.cellA rfl rfl rfl rfl (AggAt.box 1 rfl rfl)) (Res1.tmp rfl)) fun w' hw' => ⟨rfl, hw'.ext.below⟩
    rw [if_neg hb53]
    have hok := Ck.parse_ok (b := b) (by omega)
    have hpe : Ck.parse b = ⟨Ck.val (Ck.cut b 0 4), Ck.val (Ck.cut b 4 8), Ck.val (Ck.cut b 8 12), Ck.val (Ck.cut b 12 16), Ck.val (Ck.cut b 16 20), Ck.val (Ck.cut b 20 24), Ck.val (Ck.cut b 24 28), Ck.val (Ck.cut b 28 30), Ck.val (Ck.cut b 30 32), Ck.val (Ck.cut b 32 34), Ck.val (Ck.cut b 34 36), b.drop 53, Ck.w64 (Ck.val (Ck.cut b 36 44)), Ck.w64 (Ck.val (Ck.cut b 44 52))⟩ := rfl
    have t0 := fun gt gb ga w hS => wide_w gt gb ga b 0 4 rfl (by omega) (by omega) w hS
    have t1 := fun gt gb ga w hS => wide_w gt gb ga b 4 8 rfl (by omega) (by omega) w hS
    have t2 := fun gt gb ga w hS => wide_w gt gb ga b 8 12 rfl (by omega) (by omega) w hS
    have t3 := fun gt gb ga w hS => wide_w gt gb ga b 12 16 rfl (by omega) (by omega) w hS
    have t4 := fun gt gb ga w hS => wide_w gt gb ga b 16 20 rfl (by omega) (by omega) w hS
    have t5 := fun gt gb ga w hS => wide_w gt gb ga b 20 24 rfl (by omega) (by omega) w hS
    have t6 := fun gt gb ga w hS => wide_w gt gb ga b 24 28 rfl (by omega) (by omega) w hS
    have t7 := fun gt gb ga w hS => narrow_w gt gb ga b 28 30 rfl (by omega) (by omega) w hS
    have t8 := fun gt gb ga w hS => narrow_w gt gb ga b 30 32 rfl (by omega) (by omega) w hS
    have t9 := fun gt gb ga w hS => narrow_w gt gb ga b 32 34 rfl (by omega) (by omega) w hS
    have t10 := fun gt gb ga w hS => narrow_w gt gb ga b 34 36 rfl (by omega) (by omega) w hS
    have t11 := fun gb ga w hS => take_w gb ga b 36 8 44 rfl (by omega) (by omega) (by omega) w hS
    have t12 := fun gb ga w hS => take_w gb ga b 44 8 52 rfl (by omega) (by omega) (by omega) w hS
    have t13 := fun gb ga w hS => take_w gb ga b 52 1 53 rfl (by omega) (by omega) (by omega) w hS
    have hz : Ck.w64 (Ck.val (Ck.cut b 52 53)) = (Ck.val (Ck.cut b 52 53) : Nat) := Ck.w64_small (by have := Ck.val_cut_lt (b := b) (i := 52) (j := 53) (by omega); omega)
    rw [hz] at t13
    clear hz
    have hrq := fun w => ckright_q (Ck.parse b) hok (by show (b.drop 53).length ≤ 1000000; rw [List.length_drop]; omega) w
    have hpl : (b.drop 53).length = b.length - 53 := List.length_drop
    generalize Ck.val (Ck.cut b 0 4) = v0 at *
    generalize Ck.val (Ck.cut b 4 8) = v1 at *
    generalize Ck.val (Ck.cut b 8 12) = v2 at *
    generalize Ck.val (Ck.cut b 12 16) = v3 at *
    generalize Ck.val (Ck.cut b 16 20) = v4 at *
    generalize Ck.val (Ck.cut b 20 24) = v5 at *
    generalize Ck.val (Ck.cut b 24 28) = v6 at *
    generalize Ck.val (Ck.cut b 28 30) = v7 at *
    generalize Ck.val (Ck.cut b 30 32) = v8 at *
    generalize Ck.val (Ck.cut b 32 34) = v9 at *
    generalize Ck.val (Ck.cut b 34 36) = v10 at *
    generalize Ck.w64 (Ck.val (Ck.cut b 36 44)) = v11 at *
    generalize Ck.w64 (Ck.val (Ck.cut b 44 52)) = v12 at *
    generalize Ck.val (Ck.cut b 52 53) = z at *
    generalize Ck.parse b = s at *
    subst hpe
    refine enterW (fun _ => False) _ Try.func14 rfl (by simp only [Try.ntmps14, List.length_cons, List.length_nil, Nat.reduceAdd, Nat.reduceSub]; rfl) ?_
    repeat' (first
    | refine goS ?_
    | ((with_reducible refine WL.isN_bin ?_); first | refine WL.yld rfl binQ ?_)
    | ((with_reducible refine WK.isN_bin ?_); first | refine WK.yld rfl binQ ?_)
    | ((with_reducible refine WL.isN_load ?_); first | refine WL.yld rfl loadQ ?_)
    | ((with_reducible refine WK.isN_load ?_); first | refine WK.yld rfl loadQ ?_)
    | ((with_reducible refine WL.isN_build ?_); first | refine WL.yld rfl buildQ ?_)
    | ((with_reducible refine WK.isN_build ?_); first | refine WK.yld rfl buildQ ?_)
    | ((with_reducible refine WL.isN_call ?_); first | refine WL.yld rfl (Yld.lenB rfl rfl rfl) ?_ | refine WK.step rfl (Qui.call (v := .bool true) (us := [.string (bs key), .string (bs b), .string (bs (c.take 32))]) rfl rfl rfl (by kernel_rfl) (fun w _ => hck w)) ?_ | refine WL.yld rfl lenQ ?_)
    | ((with_reducible refine WK.isN_call ?_); first | refine WL.yld rfl (Yld.lenB rfl rfl rfl) ?_ | refine WK.step rfl (Qui.call (v := .bool true) (us := [.string (bs key), .string (bs b), .string (bs (c.take 32))]) rfl rfl rfl (by kernel_rfl) (fun w _ => hck w)) ?_ | refine WK.yld rfl lenQ ?_)
    | ((with_reducible refine WL.isN_alloc ?_); first | refine WL.step rfl (StepTo.allocA rfl rfl rfl rfl (fun _ => ?_)) | refine WL.step rfl (StepTo.alloc1 rfl rfl rfl rfl rfl (fun _ => ?_)))
    | ((with_reducible refine WL.isN_store ?_); first | refine WL.step rfl (StepTo.st1 rfl rfl rfl rfl rfl rfl ?_) | refine WL.step rfl (StepTo.stA rfl rfl rfl rfl rfl rfl rfl ?_) | refine WL.step rfl (StepTo.stR rfl rfl rfl rfl rfl rfl rfl ?_))
    | refine WL.yld rfl (Yld.as (Yld.cutLoS (lo := 32) rfl rfl rfl rfl rfl (by omega)) hbv) ?_
    | refine WK.yld rfl (Yld.cutHiS (hi := 32) rfl rfl rfl rfl rfl (by omega)) ?_
    | with_reducible refine WC.block ?_
    | (refine WC.quiet (i := 4) (by kernel_rfl) (by kernel_rfl) ?_)
    | (refine WC.cond rfl (fun hc => ?_) (fun hc => ?_) <;> (try first | (with_reducible replace hc := of_decide_eq_true hc) | (with_reducible replace hc := of_decide_eq_false hc) | (with_reducible replace hc := eqT hc) | (with_reducible replace hc := eqF hc) | (with_reducible replace hc := neT hc) | (with_reducible replace hc := neF hc) | (with_reducible replace hc := noT hc) | (with_reducible replace hc := noF hc)) <;> (try (exfalso; omega))))
    rename_i bR bB bA bT bS
    refine WL.step rfl (StepTo.callP (us := [.pointer (some ⟨bT, 0, none⟩)]) (HI := WdH bT bB bA b 0) [1, 3, 2] [0, 4] ⟨by decide, rfl⟩ rfl ⟨by decide, rfl⟩ rfl rfl rfl rfl rfl rfl (by kernel_rfl) (fun w hw hS => t0 bT bB bA w hS) ?_)
    rintro v NN ⟨rfl, rfl⟩
    repeat' (first
    | refine goS ?_
    | ((with_reducible refine WL.isN_bin ?_); first | refine WL.yld rfl binQ ?_)
    | ((with_reducible refine WL.isN_load ?_); first | refine WL.yld rfl loadQ ?_)
    | ((with_reducible refine WL.isN_build ?_); first | refine WL.yld rfl buildQ ?_)
    | ((with_reducible refine WL.isN_call ?_); first | refine WL.yld rfl lenQ ?_)
    | ((with_reducible refine WL.isN_alloc ?_); first | refine WL.step rfl (StepTo.allocA rfl rfl rfl rfl (fun _ => ?_)) | refine WL.step rfl (StepTo.alloc1 rfl rfl rfl rfl rfl (fun _ => ?_)))
    | ((with_reducible refine WL.isN_store ?_); first | refine WL.step rfl (StepTo.st1 rfl rfl rfl rfl rfl rfl ?_) | refine WL.step rfl (StepTo.stA rfl rfl rfl rfl rfl rfl rfl ?_) | refine WL.step rfl (StepTo.stR rfl rfl rfl rfl rfl rfl rfl ?_))
    | with_reducible refine WC.block ?_
    | (refine WC.cond rfl (fun hc => ?_) (fun hc => ?_) <;> (try first | (with_reducible replace hc := of_decide_eq_true hc) | (with_reducible replace hc := of_decide_eq_false hc) | (with_reducible replace hc := eqT hc) | (with_reducible replace hc := eqF hc) | (with_reducible replace hc := neT hc) | (with_reducible replace hc := neF hc) | (with_reducible replace hc := noT hc) | (with_reducible replace hc := noF hc)) <;> (try (exfalso; omega))))
    refine WL.step rfl (StepTo.callP (us := [.pointer (some ⟨bT, 0, none⟩)]) (HI := WdH bT bB bA b 4) [0, 1, 2] [3, 4] ⟨by decide, rfl⟩ rfl ⟨by decide, rfl⟩ rfl rfl rfl rfl rfl rfl (by kernel_rfl) (fun w hw hS => t1 bT bB bA w hS) ?_)
    rintro v NN ⟨rfl, rfl⟩
    repeat' (first
    | refine goS ?_
    | ((with_reducible refine WL.isN_bin ?_); first | refine WL.yld rfl binQ ?_)
    | ((with_reducible refine WL.isN_load ?_); first | refine WL.yld rfl loadQ ?_)
    | ((with_reducible refine WL.isN_build ?_); first | refine WL.yld rfl buildQ ?_)
    | ((with_reducible refine WL.isN_call ?_); first | refine WL.yld rfl lenQ ?_)
    | ((with_reducible refine WL.isN_alloc ?_); first | refine WL.step rfl (StepTo.allocA rfl rfl rfl rfl (fun _ => ?_)) | refine WL.step rfl (StepTo.alloc1 rfl rfl rfl rfl rfl (fun _ => ?_)))
    | ((with_reducible refine WL.isN_store ?_); first | refine WL.step rfl (StepTo.st1 rfl rfl rfl rfl rfl rfl ?_) | refine WL.step rfl (StepTo.stA rfl rfl rfl rfl rfl rfl rfl ?_) | refine WL.step rfl (StepTo.stR rfl rfl rfl rfl rfl rfl rfl ?_))
    | with_reducible refine WC.block ?_
    | (refine WC.cond rfl (fun hc => ?_) (fun hc => ?_) <;> (try first | (with_reducible replace hc := of_decide_eq_true hc) | (with_reducible replace hc := of_decide_eq_false hc) | (with_reducible replace hc := eqT hc) | (with_reducible replace hc := eqF hc) | (with_reducible replace hc := neT hc) | (with_reducible replace hc := neF hc) | (with_reducible replace hc := noT hc) | (with_reducible replace hc := noF hc)) <;> (try (exfalso; omega))))
    refine WL.step rfl (StepTo.callP (us := [.pointer (some ⟨bT, 0, none⟩)]) (HI := WdH bT bB bA b 8) [0, 1, 2] [3, 4] ⟨by decide, rfl⟩ rfl ⟨by decide, rfl⟩ rfl rfl rfl rfl rfl rfl (by kernel_rfl) (fun w hw hS => t2 bT bB bA w hS) ?_)
    rintro v NN ⟨rfl, rfl⟩
    repeat' (first
    | refine goS ?_
    | ((with_reducible refine WL.isN_bin ?_); first | refine WL.yld rfl binQ ?_)
    | ((with_reducible refine WL.isN_load ?_); first | refine WL.yld rfl loadQ ?_)
    | ((with_reducible refine WL.isN_build ?_); first | refine WL.yld rfl buildQ ?_)
    | ((with_reducible refine WL.isN_call ?_); first | refine WL.yld rfl lenQ ?_)
    | ((with_reducible refine WL.isN_alloc ?_); first | refine WL.step rfl (StepTo.allocA rfl rfl rfl rfl (fun _ => ?_)) | refine WL.step rfl (StepTo.alloc1 rfl rfl rfl rfl rfl (fun _ => ?_)))
    | ((with_reducible refine WL.isN_store ?_); first | refine WL.step rfl (StepTo.st1 rfl rfl rfl rfl rfl rfl ?_) | refine WL.step rfl (StepTo.stA rfl rfl rfl rfl rfl rfl rfl ?_) | refine WL.step rfl (StepTo.stR rfl rfl rfl rfl rfl rfl rfl ?_))
    | with_reducible refine WC.block ?_
    | (refine WC.cond rfl (fun hc => ?_) (fun hc => ?_) <;> (try first | (with_reducible replace hc := of_decide_eq_true hc) | (with_reducible replace hc := of_decide_eq_false hc) | (with_reducible replace hc := eqT hc) | (with_reducible replace hc := eqF hc) | (with_reducible replace hc := neT hc) | (with_reducible replace hc := neF hc) | (with_reducible replace hc := noT hc) | (with_reducible replace hc := noF hc)) <;> (try (exfalso; omega))))
    refine WL.step rfl (StepTo.callP (us := [.pointer (some ⟨bT, 0, none⟩)]) (HI := WdH bT bB bA b 12) [0, 1, 2] [3, 4] ⟨by decide, rfl⟩ rfl ⟨by decide, rfl⟩ rfl rfl rfl rfl rfl rfl (by kernel_rfl) (fun w hw hS => t3 bT bB bA w hS) ?_)
    rintro v NN ⟨rfl, rfl⟩
    repeat' (first
    | refine goS ?_
    | ((with_reducible refine WL.isN_bin ?_); first | refine WL.yld rfl binQ ?_)
    | ((with_reducible refine WL.isN_load ?_); first | refine WL.yld rfl loadQ ?_)
    | ((with_reducible refine WL.isN_build ?_); first | refine WL.yld rfl buildQ ?_)
    | ((with_reducible refine WL.isN_call ?_); first | refine WL.yld rfl lenQ ?_)
    | ((with_reducible refine WL.isN_alloc ?_); first | refine WL.step rfl (StepTo.allocA rfl rfl rfl rfl (fun _ => ?_)) | refine WL.step rfl (StepTo.alloc1 rfl rfl rfl rfl rfl (fun _ => ?_)))
    | ((with_reducible refine WL.isN_store ?_); first | refine WL.step rfl (StepTo.st1 rfl rfl rfl rfl rfl rfl ?_) | refine WL.step rfl (StepTo.stA rfl rfl rfl rfl rfl rfl rfl ?_) | refine WL.step rfl (StepTo.stR rfl rfl rfl rfl rfl rfl rfl ?_))
    | with_reducible refine WC.block ?_
    | (refine WC.cond rfl (fun hc => ?_) (fun hc => ?_) <;> (try first | (with_reducible replace hc := of_decide_eq_true hc) | (with_reducible replace hc := of_decide_eq_false hc) | (with_reducible replace hc := eqT hc) | (with_reducible replace hc := eqF hc) | (with_reducible replace hc := neT hc) | (with_reducible replace hc := neF hc) | (with_reducible replace hc := noT hc) | (with_reducible replace hc := noF hc)) <;> (try (exfalso; omega))))
    refine WL.step rfl (StepTo.callP (us := [.pointer (some ⟨bT, 0, none⟩)]) (HI := WdH bT bB bA b 16) [0, 1, 2] [3, 4] ⟨by decide, rfl⟩ rfl ⟨by decide, rfl⟩ rfl rfl rfl rfl rfl rfl (by kernel_rfl) (fun w hw hS => t4 bT bB bA w hS) ?_)
    rintro v NN ⟨rfl, rfl⟩
    repeat' (first
    | refine goS ?_
    | ((with_reducible refine WL.isN_bin ?_); first | refine WL.yld rfl binQ ?_)
    | ((with_reducible refine WL.isN_load ?_); first | refine WL.yld rfl loadQ ?_)
    | ((with_reducible refine WL.isN_build ?_); first | refine WL.yld rfl buildQ ?_)
    | ((with_reducible refine WL.isN_call ?_); first | refine WL.yld rfl lenQ ?_)
    | ((with_reducible refine WL.isN_alloc ?_); first | refine WL.step rfl (StepTo.allocA rfl rfl rfl rfl (fun _ => ?_)) | refine WL.step rfl (StepTo.alloc1 rfl rfl rfl rfl rfl (fun _ => ?_)))
    | ((with_reducible refine WL.isN_store ?_); first | refine WL.step rfl (StepTo.st1 rfl rfl rfl rfl rfl rfl ?_) | refine WL.step rfl (StepTo.stA rfl rfl rfl rfl rfl rfl rfl ?_) | refine WL.step rfl (StepTo.stR rfl rfl rfl rfl rfl rfl rfl ?_))
    | with_reducible refine WC.block ?_
    | (refine WC.cond rfl (fun hc => ?_) (fun hc => ?_) <;> (try first | (with_reducible replace hc := of_decide_eq_true hc) | (with_reducible replace hc := of_decide_eq_false hc) | (with_reducible replace hc := eqT hc) | (with_reducible replace hc := eqF hc) | (with_reducible replace hc := neT hc) | (with_reducible replace hc := neF hc) | (with_reducible replace hc := noT hc) | (with_reducible replace hc := noF hc)) <;> (try (exfalso; omega))))
    refine WL.step rfl (StepTo.callP (us := [.pointer (some ⟨bT, 0, none⟩)]) (HI := WdH bT bB bA b 20) [0, 1, 2] [3, 4] ⟨by decide, rfl⟩ rfl ⟨by decide, rfl⟩ rfl rfl rfl rfl rfl rfl (by kernel_rfl) (fun w hw hS => t5 bT bB bA w hS) ?_)
    rintro v NN ⟨rfl, rfl⟩
    repeat' (first
    | refine goS ?_
    | ((with_reducible refine WL.isN_bin ?_); first | refine WL.yld rfl binQ ?_)
    | ((with_reducible refine WL.isN_load ?_); first | refine WL.yld rfl loadQ ?_)
    | ((with_reducible refine WL.isN_build ?_); first | refine WL.yld rfl buildQ ?_)
    | ((with_reducible refine WL.isN_call ?_); first | refine WL.yld rfl lenQ ?_)
    | ((with_reducible refine WL.isN_alloc ?_); first | refine WL.step rfl (StepTo.allocA rfl rfl rfl rfl (fun _ => ?_)) | refine WL.step rfl (StepTo.alloc1 rfl rfl rfl rfl rfl (fun _ => ?_)))
    | ((with_reducible refine WL.isN_store ?_); first | refine WL.step rfl (StepTo.st1 rfl rfl rfl rfl rfl rfl ?_) | refine WL.step rfl (StepTo.stA rfl rfl rfl rfl rfl rfl rfl ?_) | refine WL.step rfl (StepTo.stR rfl rfl rfl rfl rfl rfl rfl ?_))
    | with_reducible refine WC.block ?_
    | (refine WC.cond rfl (fun hc => ?_) (fun hc => ?_) <;> (try first | (with_reducible replace hc := of_decide_eq_true hc) | (with_reducible replace hc := of_decide_eq_false hc) | (with_reducible replace hc := eqT hc) | (with_reducible replace hc := eqF hc) | (with_reducible replace hc := neT hc) | (with_reducible replace hc := neF hc) | (with_reducible replace hc := noT hc) | (with_reducible replace hc := noF hc)) <;> (try (exfalso; omega))))
    refine WL.step rfl (StepTo.callP (us := [.pointer (some ⟨bT, 0, none⟩)]) (HI := WdH bT bB bA b 24) [0, 1, 2] [3, 4] ⟨by decide, rfl⟩ rfl ⟨by decide, rfl⟩ rfl rfl rfl rfl rfl rfl (by kernel_rfl) (fun w hw hS => t6 bT bB bA w hS) ?_)
    rintro v NN ⟨rfl, rfl⟩
    repeat' (first
    | refine goS ?_
    | ((with_reducible refine WL.isN_bin ?_); first | refine WL.yld rfl binQ ?_)
    | ((with_reducible refine WL.isN_load ?_); first | refine WL.yld rfl loadQ ?_)
    | ((with_reducible refine WL.isN_build ?_); first | refine WL.yld rfl buildQ ?_)
    | ((with_reducible refine WL.isN_call ?_); first | refine WL.yld rfl lenQ ?_)
    | ((with_reducible refine WL.isN_alloc ?_); first | refine WL.step rfl (StepTo.allocA rfl rfl rfl rfl (fun _ => ?_)) | refine WL.step rfl (StepTo.alloc1 rfl rfl rfl rfl rfl (fun _ => ?_)))
    | ((with_reducible refine WL.isN_store ?_); first | refine WL.step rfl (StepTo.st1 rfl rfl rfl rfl rfl rfl ?_) | refine WL.step rfl (StepTo.stA rfl rfl rfl rfl rfl rfl rfl ?_) | refine WL.step rfl (StepTo.stR rfl rfl rfl rfl rfl rfl rfl ?_))
    | with_reducible refine WC.block ?_
    | (refine WC.cond rfl (fun hc => ?_) (fun hc => ?_) <;> (try first | (with_reducible replace hc := of_decide_eq_true hc) | (with_reducible replace hc := of_decide_eq_false hc) | (with_reducible replace hc := eqT hc) | (with_reducible replace hc := eqF hc) | (with_reducible replace hc := neT hc) | (with_reducible replace hc := neF hc) | (with_reducible replace hc := noT hc) | (with_reducible replace hc := noF hc)) <;> (try (exfalso; omega))))
    refine WL.step rfl (StepTo.callP (us := [.pointer (some ⟨bT, 0, none⟩)]) (HI := WdH bT bB bA b 28) [0, 1, 2] [3, 4] ⟨by decide, rfl⟩ rfl ⟨by decide, rfl⟩ rfl rfl rfl rfl rfl rfl (by kernel_rfl) (fun w hw hS => t7 bT bB bA w hS) ?_)
    rintro v NN ⟨rfl, rfl⟩
    repeat' (first
    | refine goS ?_
    | ((with_reducible refine WL.isN_bin ?_); first | refine WL.yld rfl binQ ?_)
    | ((with_reducible refine WL.isN_load ?_); first | refine WL.yld rfl loadQ ?_)
    | ((with_reducible refine WL.isN_build ?_); first | refine WL.yld rfl buildQ ?_)
    | ((with_reducible refine WL.isN_call ?_); first | refine WL.yld rfl lenQ ?_)
    | ((with_reducible refine WL.isN_alloc ?_); first | refine WL.step rfl (StepTo.allocA rfl rfl rfl rfl (fun _ => ?_)) | refine WL.step rfl (StepTo.alloc1 rfl rfl rfl rfl rfl (fun _ => ?_)))
    | ((with_reducible refine WL.isN_store ?_); first | refine WL.step rfl (StepTo.st1 rfl rfl rfl rfl rfl rfl ?_) | refine WL.step rfl (StepTo.stA rfl rfl rfl rfl rfl rfl rfl ?_) | refine WL.step rfl (StepTo.stR rfl rfl rfl rfl rfl rfl rfl ?_))
    | with_reducible refine WC.block ?_
    | (refine WC.cond rfl (fun hc => ?_) (fun hc => ?_) <;> (try first | (with_reducible replace hc := of_decide_eq_true hc) | (with_reducible replace hc := of_decide_eq_false hc) | (with_reducible replace hc := eqT hc) | (with_reducible replace hc := eqF hc) | (with_reducible replace hc := neT hc) | (with_reducible replace hc := neF hc) | (with_reducible replace hc := noT hc) | (with_reducible replace hc := noF hc)) <;> (try (exfalso; omega))))
    refine WL.step rfl (StepTo.callP (us := [.pointer (some ⟨bT, 0, none⟩)]) (HI := WdH bT bB bA b 30) [0, 1, 2] [3, 4] ⟨by decide, rfl⟩ rfl ⟨by decide, rfl⟩ rfl rfl rfl rfl rfl rfl (by kernel_rfl) (fun w hw hS => t8 bT bB bA w hS) ?_)
    rintro v NN ⟨rfl, rfl⟩
    repeat' (first
    | refine goS ?_
    | ((with_reducible refine WL.isN_bin ?_); first | refine WL.yld rfl binQ ?_)
    | ((with_reducible refine WL.isN_load ?_); first | refine WL.yld rfl loadQ ?_)
    | ((with_reducible refine WL.isN_build ?_); first | refine WL.yld rfl buildQ ?_)
    | ((with_reducible refine WL.isN_call ?_); first | refine WL.yld rfl lenQ ?_)
    | ((with_reducible refine WL.isN_alloc ?_); first | refine WL.step rfl (StepTo.allocA rfl rfl rfl rfl (fun _ => ?_)) | refine WL.step rfl (StepTo.alloc1 rfl rfl rfl rfl rfl (fun _ => ?_)))
    | ((with_reducible refine WL.isN_store ?_); first | refine WL.step rfl (StepTo.st1 rfl rfl rfl rfl rfl rfl ?_) | refine WL.step rfl (StepTo.stA rfl rfl rfl rfl rfl rfl rfl ?_) | refine WL.step rfl (StepTo.stR rfl rfl rfl rfl rfl rfl rfl ?_))
    | with_reducible refine WC.block ?_
    | (refine WC.cond rfl (fun hc => ?_) (fun hc => ?_) <;> (try first | (with_reducible replace hc := of_decide_eq_true hc) | (with_reducible replace hc := of_decide_eq_false hc) | (with_reducible replace hc := eqT hc) | (with_reducible replace hc := eqF hc) | (with_reducible replace hc := neT hc) | (with_reducible replace hc := neF hc) | (with_reducible replace hc := noT hc) | (with_reducible replace hc := noF hc)) <;> (try (exfalso; omega))))
    refine WL.step rfl (StepTo.callP (us := [.pointer (some ⟨bT, 0, none⟩)]) (HI := WdH bT bB bA b 32) [0, 1, 2] [3, 4] ⟨by decide, rfl⟩ rfl ⟨by decide, rfl⟩ rfl rfl rfl rfl rfl rfl (by kernel_rfl) (fun w hw hS => t9 bT bB bA w hS) ?_)
    rintro v NN ⟨rfl, rfl⟩
    repeat' (first
    | refine goS ?_
    | ((with_reducible refine WL.isN_bin ?_); first | refine WL.yld rfl binQ ?_)
    | ((with_reducible refine WL.isN_load ?_); first | refine WL.yld rfl loadQ ?_)
    | ((with_reducible refine WL.isN_build ?_); first | refine WL.yld rfl buildQ ?_)
    | ((with_reducible refine WL.isN_call ?_); first | refine WL.yld rfl lenQ ?_)
    | ((with_reducible refine WL.isN_alloc ?_); first | refine WL.step rfl (StepTo.allocA rfl rfl rfl rfl (fun _ => ?_)) | refine WL.step rfl (StepTo.alloc1 rfl rfl rfl rfl rfl (fun _ => ?_)))
    | ((with_reducible refine WL.isN_store ?_); first | refine WL.step rfl (StepTo.st1 rfl rfl rfl rfl rfl rfl ?_) | refine WL.step rfl (StepTo.stA rfl rfl rfl rfl rfl rfl rfl ?_) | refine WL.step rfl (StepTo.stR rfl rfl rfl rfl rfl rfl rfl ?_))
    | with_reducible refine WC.block ?_
    | (refine WC.cond rfl (fun hc => ?_) (fun hc => ?_) <;> (try first | (with_reducible replace hc := of_decide_eq_true hc) | (with_reducible replace hc := of_decide_eq_false hc) | (with_reducible replace hc := eqT hc) | (with_reducible replace hc := eqF hc) | (with_reducible replace hc := neT hc) | (with_reducible replace hc := neF hc) | (with_reducible replace hc := noT hc) | (with_reducible replace hc := noF hc)) <;> (try (exfalso; omega))))
    refine WL.step rfl (StepTo.callP (us := [.pointer (some ⟨bT, 0, none⟩)]) (HI := WdH bT bB bA b 34) [0, 1, 2] [3, 4] ⟨by decide, rfl⟩ rfl ⟨by decide, rfl⟩ rfl rfl rfl rfl rfl rfl (by kernel_rfl) (fun w hw hS => t10 bT bB bA w hS) ?_)
    rintro v NN ⟨rfl, rfl⟩
    repeat' (first
    | refine goS ?_
    | ((with_reducible refine WL.isN_bin ?_); first | refine WL.yld rfl binQ ?_)
    | ((with_reducible refine WL.isN_load ?_); first | refine WL.yld rfl loadQ ?_)
    | ((with_reducible refine WL.isN_build ?_); first | refine WL.yld rfl buildQ ?_)
    | ((with_reducible refine WL.isN_call ?_); first | refine WL.yld rfl lenQ ?_)
    | ((with_reducible refine WL.isN_alloc ?_); first | refine WL.step rfl (StepTo.allocA rfl rfl rfl rfl (fun _ => ?_)) | refine WL.step rfl (StepTo.alloc1 rfl rfl rfl rfl rfl (fun _ => ?_)))
    | ((with_reducible refine WL.isN_store ?_); first | refine WL.step rfl (StepTo.st1 rfl rfl rfl rfl rfl rfl ?_) | refine WL.step rfl (StepTo.stA rfl rfl rfl rfl rfl rfl rfl ?_) | refine WL.step rfl (StepTo.stR rfl rfl rfl rfl rfl rfl rfl ?_))
    | with_reducible refine WC.block ?_
    | (refine WC.cond rfl (fun hc => ?_) (fun hc => ?_) <;> (try first | (with_reducible replace hc := of_decide_eq_true hc) | (with_reducible replace hc := of_decide_eq_false hc) | (with_reducible replace hc := eqT hc) | (with_reducible replace hc := eqF hc) | (with_reducible replace hc := neT hc) | (with_reducible replace hc := neF hc) | (with_reducible replace hc := noT hc) | (with_reducible replace hc := noF hc)) <;> (try (exfalso; omega))))
    refine WC.sub (idx := [0, 1, 2, 3, 4]) (τ' := [(4, .pointer (some ⟨bR, 0, none⟩)), (6, .pointer (some ⟨bB, 0, none⟩)), (7, .pointer (some ⟨bA, 0, none⟩)), (8, .pointer (some ⟨bT, 0, none⟩)), (11, .pointer (some ⟨bS, 0, none⟩))]) (H' := WdH bT bB bA b 36 ++ [.box bS 25 [.int .u32 v0, .int .u32 v1, .int .u32 v2, .int .u32 v3, .int .u32 v4, .int .u32 v5, .int .u32 v6, .int .u16 v7, .int .u16 v8, .int .u16 v9, .int .u16 v10, .string { data := #[] }, .int .i64 0, .int .i64 0], .box bR 25 [.int .u32 0, .int .u32 0, .int .u32 0, .int .u32 0, .int .u32 0, .int .u32 0, .int .u32 0, .int .u16 0, .int .u16 0, .int .u16 0, .int .u16 0, .string { data := #[] }, .int .i64 0, .int .i64 0]]) (by repeat (first | exact Sub.nil | refine Sub.cons rfl ?_ | refine Sub.consE rfl (int_eq (by omega)) ?_)) ⟨by decide, rfl⟩ ?_
    refine WC.cut (fun τ H => τ = [(4, .pointer (some ⟨bR, 0, none⟩)), (6, .pointer (some ⟨bB, 0, none⟩)), (7, .pointer (some ⟨bA, 0, none⟩)), (8, .pointer (some ⟨bT, 0, none⟩)), (11, .pointer (some ⟨bS, 0, none⟩))] ∧ H = WdH bT bB bA b 52 ++ [.box bS 25 [.int .u32 v0, .int .u32 v1, .int .u32 v2, .int .u32 v3, .int .u32 v4, .int .u32 v5, .int .u32 v6, .int .u16 v7, .int .u16 v8, .int .u16 v9, .int .u16 v10, .string { data := #[] }, .int .i64 v11, .int .i64 v12], .box bR 25 [.int .u32 0, .int .u32 0, .int .u32 0, .int .u32 0, .int .u32 0, .int .u32 0, .int .u32 0, .int .u16 0, .int .u16 0, .int .u16 0, .int .u16 0, .string { data := #[] }, .int .i64 0, .int .i64 0]]) ?_ ?_
    refine WC.anyI [0] (by kernel_rfl) ?_
    refine WA.take (idx := [0]) 0 rfl (by kernel_rfl) (by kernel_rfl) (by kernel_rfl) rfl ⟨by decide, rfl⟩ (by first | exact Yld.load rfl rfl rfl rfl cellQ | exact Yld.loadAgg rfl rfl rfl rfl rfl aggQ) ?_
    refine WA.take (idx := [0]) 2 rfl (by kernel_rfl) (by kernel_rfl) (by kernel_rfl) rfl ⟨by decide, rfl⟩ (by first | exact Yld.load rfl rfl rfl rfl cellQ | exact Yld.loadAgg rfl rfl rfl rfl rfl aggQ) ?_
    refine WA.one 1 (by kernel_rfl) rfl rfl ?_
    refine StepTo.callP (us := [.int .i64 8, .pointer (some ⟨bB, 0, none⟩), .pointer (some ⟨bA, 0, none⟩)]) (HI := TkH bB bA b 36) [1, 2] [0, 3, 4] ⟨by decide, rfl⟩ rfl ⟨by decide, rfl⟩ rfl rfl rfl rfl rfl rfl (by kernel_rfl) (fun w hw hS => t11 bB bA w hS) ?_
    rintro v NN ⟨rfl, rfl⟩
    refine ⟨⟨[2], by decide, rfl⟩, ?_⟩
    refine WA.take (idx := [2]) 4 rfl (by kernel_rfl) (by kernel_rfl) (by kernel_rfl) rfl ⟨by decide, rfl⟩ (Yld.fieldAddr rfl rfl rfl rfl rfl rfl rfl) ?_
    refine WA.one 3 (by kernel_rfl) rfl rfl ?_
    refine StepTo.callP (us := [.int .i64 8, .pointer (some ⟨bB, 0, none⟩), .pointer (some ⟨bA, 0, none⟩)]) (HI := TkH bB bA b 44) [0, 1] [2, 3, 4] ⟨by decide, rfl⟩ rfl ⟨by decide, rfl⟩ rfl rfl rfl rfl rfl rfl (by kernel_rfl) (fun w hw hS => t12 bB bA w hS) ?_
    rintro v NN ⟨rfl, rfl⟩
    refine ⟨⟨[2], by decide, rfl⟩, ?_⟩
    refine WA.one 5 (by kernel_rfl) rfl rfl ?_
    first | refine StepTo.store1 0 rfl rfl rfl rfl rfl rfl rfl overQ setQ ⟨⟨[2], by decide, rfl⟩, ?_⟩ | refine StepTo.storeA 0 rfl rfl rfl rfl rfl rfl rfl rfl overQ setQ ⟨⟨[2], by decide, rfl⟩, ?_⟩ | refine StepTo.storeRow 0 rfl rfl rfl rfl rfl rfl rfl rfl (by omega) setQ ⟨⟨[2], by decide, rfl⟩, ?_⟩ | refine StepTo.store1 1 rfl rfl rfl rfl rfl rfl rfl overQ setQ ⟨⟨[2], by decide, rfl⟩, ?_⟩ | refine StepTo.storeA 1 rfl rfl rfl rfl rfl rfl rfl rfl overQ setQ ⟨⟨[2], by decide, rfl⟩, ?_⟩ | refine StepTo.storeRow 1 rfl rfl rfl rfl rfl rfl rfl rfl (by omega) setQ ⟨⟨[2], by decide, rfl⟩, ?_⟩ | refine StepTo.store1 2 rfl rfl rfl rfl rfl rfl rfl overQ setQ ⟨⟨[2], by decide, rfl⟩, ?_⟩ | refine StepTo.storeA 2 rfl rfl rfl rfl rfl rfl rfl rfl overQ setQ ⟨⟨[2], by decide, rfl⟩, ?_⟩ | refine StepTo.storeRow 2 rfl rfl rfl rfl rfl rfl rfl rfl (by omega) setQ ⟨⟨[2], by decide, rfl⟩, ?_⟩ | refine StepTo.store1 3 rfl rfl rfl rfl rfl rfl rfl overQ setQ ⟨⟨[2], by decide, rfl⟩, ?_⟩ | refine StepTo.storeA 3 rfl rfl rfl rfl rfl rfl rfl rfl overQ setQ ⟨⟨[2], by decide, rfl⟩, ?_⟩ | refine StepTo.storeRow 3 rfl rfl rfl rfl rfl rfl rfl rfl (by omega) setQ ⟨⟨[2], by decide, rfl⟩, ?_⟩ | refine StepTo.store1 4 rfl rfl rfl rfl rfl rfl rfl overQ setQ ⟨⟨[2], by decide, rfl⟩, ?_⟩ | refine StepTo.storeA 4 rfl rfl rfl rfl rfl rfl rfl rfl overQ setQ ⟨⟨[2], by decide, rfl⟩, ?_⟩ | refine StepTo.storeRow 4 rfl rfl rfl rfl rfl rfl rfl rfl (by omega) setQ ⟨⟨[2], by decide, rfl⟩, ?_⟩
    refine WA.take (idx := [2]) 6 rfl (by kernel_rfl) (by kernel_rfl) (by kernel_rfl) rfl ⟨by decide, rfl⟩ (Yld.fieldAddr rfl rfl rfl rfl rfl rfl rfl) ?_
    refine WA.one 7 (by kernel_rfl) rfl rfl ?_
    first | refine StepTo.store1 0 rfl rfl rfl rfl rfl rfl rfl overQ setQ ⟨⟨[2], by decide, rfl⟩, ?_⟩ | refine StepTo.storeA 0 rfl rfl rfl rfl rfl rfl rfl rfl overQ setQ ⟨⟨[2], by decide, rfl⟩, ?_⟩ | refine StepTo.storeRow 0 rfl rfl rfl rfl rfl rfl rfl rfl (by omega) setQ ⟨⟨[2], by decide, rfl⟩, ?_⟩ | refine StepTo.store1 1 rfl rfl rfl rfl rfl rfl rfl overQ setQ ⟨⟨[2], by decide, rfl⟩, ?_⟩ | refine StepTo.storeA 1 rfl rfl rfl rfl rfl rfl rfl rfl overQ setQ ⟨⟨[2], by decide, rfl⟩, ?_⟩ | refine StepTo.storeRow 1 rfl rfl rfl rfl rfl rfl rfl rfl (by omega) setQ ⟨⟨[2], by decide, rfl⟩, ?_⟩ | refine StepTo.store1 2 rfl rfl rfl rfl rfl rfl rfl overQ setQ ⟨⟨[2], by decide, rfl⟩, ?_⟩ | refine StepTo.storeA 2 rfl rfl rfl rfl rfl rfl rfl rfl overQ setQ ⟨⟨[2], by decide, rfl⟩, ?_⟩ | refine StepTo.storeRow 2 rfl rfl rfl rfl rfl rfl rfl rfl (by omega) setQ ⟨⟨[2], by decide, rfl⟩, ?_⟩ | refine StepTo.store1 3 rfl rfl rfl rfl rfl rfl rfl overQ setQ ⟨⟨[2], by decide, rfl⟩, ?_⟩ | refine StepTo.storeA 3 rfl rfl rfl rfl rfl rfl rfl rfl overQ setQ ⟨⟨[2], by decide, rfl⟩, ?_⟩ | refine StepTo.storeRow 3 rfl rfl rfl rfl rfl rfl rfl rfl (by omega) setQ ⟨⟨[2], by decide, rfl⟩, ?_⟩ | refine StepTo.store1 4 rfl rfl rfl rfl rfl rfl rfl overQ setQ ⟨⟨[2], by decide, rfl⟩, ?_⟩ | refine StepTo.storeA 4 rfl rfl rfl rfl rfl rfl rfl rfl overQ setQ ⟨⟨[2], by decide, rfl⟩, ?_⟩ | refine StepTo.storeRow 4 rfl rfl rfl rfl rfl rfl rfl rfl (by omega) setQ ⟨⟨[2], by decide, rfl⟩, ?_⟩
    refine WA.done (by kernel_rfl) ?_
    refine WQ.thenN ?_
    exact WQ.met _ _ [2, 0, 1, 3, 4] (by repeat (first | exact Sub.nil | refine Sub.cons rfl ?_ | refine Sub.consE rfl (int_eq (by omega)) ?_)) ⟨by decide, rfl⟩ ⟨rfl, rfl⟩
    rintro τ H ⟨rfl, rfl⟩
    repeat' (first
    | refine goS ?_
    | ((with_reducible refine WL.isN_bin ?_); first | refine WL.yld rfl binQ ?_)
    | ((with_reducible refine WL.isN_load ?_); first | refine WL.yld rfl loadQ ?_)
    | ((with_reducible refine WL.isN_build ?_); first | refine WL.yld rfl buildQ ?_)
    | ((with_reducible refine WL.isN_call ?_); first | refine WL.yld rfl lenQ ?_)
    | ((with_reducible refine WL.isN_alloc ?_); first | refine WL.step rfl (StepTo.allocA rfl rfl rfl rfl (fun _ => ?_)) | refine WL.step rfl (StepTo.alloc1 rfl rfl rfl rfl rfl (fun _ => ?_)))
    | ((with_reducible refine WL.isN_store ?_); first | refine WL.step rfl (StepTo.st1 rfl rfl rfl rfl rfl rfl ?_) | refine WL.step rfl (StepTo.stA rfl rfl rfl rfl rfl rfl rfl ?_) | refine WL.step rfl (StepTo.stR rfl rfl rfl rfl rfl rfl rfl ?_))
    | with_reducible refine WC.block ?_
    | (refine WC.cond rfl (fun hc => ?_) (fun hc => ?_) <;> (try first | (with_reducible replace hc := of_decide_eq_true hc) | (with_reducible replace hc := of_decide_eq_false hc) | (with_reducible replace hc := eqT hc) | (with_reducible replace hc := eqF hc) | (with_reducible replace hc := neT hc) | (with_reducible replace hc := neF hc) | (with_reducible replace hc := noT hc) | (with_reducible replace hc := noF hc)) <;> (try (exfalso; omega))))
    refine WL.step rfl (StepTo.callP (us := [.int .i64 1, .pointer (some ⟨bB, 0, none⟩), .pointer (some ⟨bA, 0, none⟩)]) (HI := TkH bB bA b 52) [1, 2] [0, 3, 4] ⟨by decide, rfl⟩ rfl ⟨by decide, rfl⟩ rfl rfl rfl rfl rfl rfl (by kernel_rfl) (fun w hw hS => t13 bB bA w hS) ?_)
    rintro v NN ⟨rfl, rfl⟩
    by_cases hzl : z = (b.drop 53).length
    case neg =>
      rw [if_pos (.inl hzl)]
      repeat' (first
    | refine goS ?_
    | ((with_reducible refine WL.isN_bin ?_); first | refine WL.yld rfl binQ ?_)
    | ((with_reducible refine WL.isN_load ?_); first | refine WL.yld rfl loadQ ?_)
    | ((with_reducible refine WL.isN_build ?_); first | refine WL.yld rfl buildQ ?_)
    | ((with_reducible refine WL.isN_call ?_); first | refine WL.yld rfl (Yld.lenB rfl rfl rfl) ?_ | refine WL.yld rfl lenQ ?_)
    | ((with_reducible refine WL.isN_alloc ?_); first | refine WL.step rfl (StepTo.allocA rfl rfl rfl rfl (fun _ => ?_)) | refine WL.step rfl (StepTo.alloc1 rfl rfl rfl rfl rfl (fun _ => ?_)))
    | ((with_reducible refine WL.isN_store ?_); first | refine WL.step rfl (StepTo.st1 rfl rfl rfl rfl rfl rfl ?_) | refine WL.step rfl (StepTo.stA rfl rfl rfl rfl rfl rfl rfl ?_) | refine WL.step rfl (StepTo.stR rfl rfl rfl rfl rfl rfl rfl ?_))
    | refine WL.yld rfl (Yld.cutLoS (lo := 53) rfl rfl rfl rfl rfl (by omega)) ?_
    | with_reducible refine WC.block ?_
    | (refine WC.cond rfl (fun hc => ?_) (fun hc => ?_) <;> (try first | (with_reducible replace hc := of_decide_eq_true hc) | (with_reducible replace hc := of_decide_eq_false hc) | (with_reducible replace hc := eqT hc) | (with_reducible replace hc := eqF hc) | (with_reducible replace hc := neT hc) | (with_reducible replace hc := neF hc) | (with_reducible replace hc := noT hc) | (with_reducible replace hc := noF hc)) <;> (try (exfalso; omega))))
      exact WQ.body (Reads.two rfl (Res1.cellA rfl rfl rfl rfl (AggAt.box 4 rfl rfl)) (Res1.tmp rfl)) fun w' hw' => ⟨rfl, hw'.ext.below⟩
    cases hr : Ck.right ⟨v0, v1, v2, v3, v4, v5, v6, v7, v8, v9, v10, b.drop 53, v11, v12⟩ with
    | false =>
      rw [if_pos (.inr rfl)]
      rw [hr] at hrq
      repeat' (first
    | refine goS ?_
    | ((with_reducible refine WL.isN_bin ?_); first | refine WL.yld rfl binQ ?_)
    | ((with_reducible refine WL.isN_load ?_); first | refine WL.yld rfl loadQ ?_)
    | ((with_reducible refine WL.isN_build ?_); first | refine WL.yld rfl buildQ ?_)
    | ((with_reducible refine WL.isN_call ?_); first | refine WL.yld rfl (Yld.lenB rfl rfl rfl) ?_ | refine WL.step rfl (StepTo.callV (v := .bool false) (us := [.agg (Ck.St.cs ⟨v0, v1, v2, v3, v4, v5, v6, v7, v8, v9, v10, b.drop 53, v11, v12⟩).toArray]) rfl rfl rfl rfl rfl (by kernel_rfl) (fun w hw => hrq w) ?_) | refine WL.yld rfl lenQ ?_)
    | ((with_reducible refine WL.isN_alloc ?_); first | refine WL.step rfl (StepTo.allocA rfl rfl rfl rfl (fun _ => ?_)) | refine WL.step rfl (StepTo.alloc1 rfl rfl rfl rfl rfl (fun _ => ?_)))
    | ((with_reducible refine WL.isN_store ?_); first | refine WL.step rfl (StepTo.st1 rfl rfl rfl rfl rfl rfl ?_) | refine WL.step rfl (StepTo.stA rfl rfl rfl rfl rfl rfl rfl ?_) | refine WL.step rfl (StepTo.stR rfl rfl rfl rfl rfl rfl rfl ?_))
    | refine WL.yld rfl (Yld.cutLoS (lo := 53) rfl rfl rfl rfl rfl (by omega)) ?_
    | with_reducible refine WC.block ?_
    | (refine WC.cond rfl (fun hc => ?_) (fun hc => ?_) <;> (try first | (with_reducible replace hc := of_decide_eq_true hc) | (with_reducible replace hc := of_decide_eq_false hc) | (with_reducible replace hc := eqT hc) | (with_reducible replace hc := eqF hc) | (with_reducible replace hc := neT hc) | (with_reducible replace hc := neF hc) | (with_reducible replace hc := noT hc) | (with_reducible replace hc := noF hc)) <;> (try (exfalso; omega))))
      exact WQ.body (Reads.two rfl (Res1.cellA rfl rfl rfl rfl (AggAt.box 4 rfl rfl)) (Res1.tmp rfl)) fun w' hw' => ⟨rfl, hw'.ext.below⟩
    | true =>
      rw [if_neg (by simp [hzl])]
      rw [hr] at hrq
      repeat' (first
    | refine goS ?_
    | ((with_reducible refine WL.isN_bin ?_); first | refine WL.yld rfl binQ ?_)
    | ((with_reducible refine WL.isN_load ?_); first | refine WL.yld rfl loadQ ?_)
    | ((with_reducible refine WL.isN_build ?_); first | refine WL.yld rfl buildQ ?_)
    | ((with_reducible refine WL.isN_call ?_); first | refine WL.yld rfl (Yld.lenB rfl rfl rfl) ?_ | refine WL.step rfl (StepTo.callV (v := .bool true) (us := [.agg (Ck.St.cs ⟨v0, v1, v2, v3, v4, v5, v6, v7, v8, v9, v10, b.drop 53, v11, v12⟩).toArray]) rfl rfl rfl rfl rfl (by kernel_rfl) (fun w hw => hrq w) ?_) | refine WL.yld rfl lenQ ?_)
    | ((with_reducible refine WL.isN_alloc ?_); first | refine WL.step rfl (StepTo.allocA rfl rfl rfl rfl (fun _ => ?_)) | refine WL.step rfl (StepTo.alloc1 rfl rfl rfl rfl rfl (fun _ => ?_)))
    | ((with_reducible refine WL.isN_store ?_); first | refine WL.step rfl (StepTo.st1 rfl rfl rfl rfl rfl rfl ?_) | refine WL.step rfl (StepTo.stA rfl rfl rfl rfl rfl rfl rfl ?_) | refine WL.step rfl (StepTo.stR rfl rfl rfl rfl rfl rfl rfl ?_))
    | refine WL.yld rfl (Yld.cutLoS (lo := 53) rfl rfl rfl rfl rfl (by omega)) ?_
    | with_reducible refine WC.block ?_
    | (refine WC.cond rfl (fun hc => ?_) (fun hc => ?_) <;> (try first | (with_reducible replace hc := of_decide_eq_true hc) | (with_reducible replace hc := of_decide_eq_false hc) | (with_reducible replace hc := eqT hc) | (with_reducible replace hc := eqF hc) | (with_reducible replace hc := neT hc) | (with_reducible replace hc := neF hc) | (with_reducible replace hc := noT hc) | (with_reducible replace hc := noF hc)) <;> (try (exfalso; omega))))
      exact WQ.body (Reads.two rfl (Res1.cellA rfl rfl rfl rfl (AggAt.box 4 rfl rfl)) (Res1.tmp rfl)) fun w' hw' => ⟨rfl, hw'.ext.below⟩
set_option maxHeartbeats 4000000 in
theorem rread_q (key c : List UInt8) (hkey : key.length ≤ 1000000) (hc : c.length ≤ 1000000) (w : World) : Calls Try.prog 15 #[.string (bs key), .string (bs c)] w
    fun e w' => e = .returned (.tuple #[.agg (Ck.read key c).1.cs.toArray, .int .i64 (Ck.read key c).2]) ∧ Below w.heap.size w w' := by
  by_cases hc32 : c.length < 32
  case pos =>
    have hr : Ck.read key c = (Ck.St.zero, 3) := by rw [Ck.read, if_pos hc32]
    rw [hr]
    refine enterW (fun _ => False) _ Try.func15 rfl (by simp only [Try.ntmps15, List.length_cons, List.length_nil, Nat.reduceAdd, Nat.reduceSub]; rfl) ?_
    repeat' (first
    | refine goS ?_
    | ((with_reducible refine WL.isN_bin ?_); first | refine WL.yld rfl binQ ?_)
    | ((with_reducible refine WL.isN_load ?_); first | refine WL.yld rfl loadQ ?_)
    | ((with_reducible refine WL.isN_conv ?_); first | refine WL.yld rfl convQ ?_)
    | ((with_reducible refine WL.isN_build ?_); first | refine WL.yld rfl buildQ ?_)
    | ((with_reducible refine WL.isN_call ?_); first | refine WL.yld rfl (Yld.lenB rfl rfl rfl) ?_ | refine WL.yld rfl lenQ ?_)
    | ((with_reducible refine WL.isN_alloc ?_); first | refine WL.step rfl (StepTo.allocA rfl rfl rfl rfl (fun _ => ?_)) | refine WL.step rfl (StepTo.alloc1 rfl rfl rfl rfl rfl (fun _ => ?_)))
    | ((with_reducible refine WL.isN_store ?_); first | refine WL.step rfl (StepTo.st1 rfl rfl rfl rfl rfl rfl ?_) | refine WL.step rfl (StepTo.stA rfl rfl rfl rfl rfl rfl rfl ?_) | refine WL.step rfl (StepTo.stR rfl rfl rfl rfl rfl rfl rfl ?_))
    | with_reducible refine WC.block ?_
    | (refine WC.cond rfl (fun hc => ?_) (fun hc => ?_) <;> (try first | (with_reducible replace hc := of_decide_eq_true hc) | (with_reducible replace hc := of_decide_eq_false hc) | (with_reducible replace hc := eqT hc) | (with_reducible replace hc := eqF hc) | (with_reducible replace hc := neT hc) | (with_reducible replace hc := neF hc) | (with_reducible replace hc := noT hc) | (with_reducible replace hc := noF hc)) <;> (try (exfalso; omega))))
    exact WQ.body (Reads.two rfl (Res1.cellA rfl rfl rfl rfl (AggAt.box 0 rfl rfl)) (Res1.tmp rfl)) fun w' hw' => ⟨rfl, hw'.ext.below⟩
  have hbl : (c.drop 32).length = c.length - 32 := List.length_drop
  have hck := fun w => rhm_q key (c.drop 32) (by omega) (by omega) w
  have hr0 : Ck.read key c = if (Hm.sum key (c.drop 32) == c.take 32) = false then (Ck.St.zero, 5) else if (c.drop 32).length < 53 then (Ck.St.zero, 2)
      else if Ck.val (Ck.cut (c.drop 32) 52 53) ≠ ((c.drop 32).drop 53).length ∨ Ck.right (Ck.parse (c.drop 32)) = false then (Ck.St.zero, 2) else (Ck.parse (c.drop 32), 0) := by
    rw [Ck.read, if_neg hc32]
    by_cases h : Hm.sum key (c.drop 32) = c.take 32
    · simp [h]
    · rw [if_pos h, if_pos (by simpa using h)]
  rw [hr0]
  clear hr0
  generalize Hm.sum key (c.drop 32) = Z at *
  have hne : Value.bool (!(Z == c.take 32)) = .bool (!(Z == c.take 32)) := rfl
  generalize hok0 : (Z == c.take 32) = ok at *
  have hne : Value.bool (!(Z == c.take 32)) = .bool (!ok) := by rw [hok0]
  obtain ⟨b, hb⟩ : ∃ b, c.drop 32 = b := ⟨_, rfl⟩
  have hbv : Value.string (bs (c.drop 32)) = .string (bs b) := by rw [hb]
  rw [hb] at hbl hck ⊢
  cases ok with
  | false =>
    rw [if_pos rfl]
    refine enterW (fun _ => False) _ Try.func15 rfl (by simp only [Try.ntmps15, List.length_cons, List.length_nil, Nat.reduceAdd, Nat.reduceSub]; rfl) ?_
    repeat' (first
    | refine goS ?_
    | ((with_reducible refine WL.isN_bin ?_); first | refine WL.yld rfl ((Yld.neS rfl rfl rfl).as hne) ?_ | refine WL.yld rfl binQ ?_)
    | ((with_reducible refine WK.isN_bin ?_); first | refine WK.yld rfl ((Yld.neS rfl rfl rfl).as hne) ?_ | refine WK.yld rfl binQ ?_)
    | ((with_reducible refine WL.isN_load ?_); first | refine WL.yld rfl loadQ ?_)
    | ((with_reducible refine WK.isN_load ?_); first | refine WK.yld rfl loadQ ?_)
    | ((with_reducible refine WL.isN_conv ?_); first | refine WL.yld rfl convQ ?_)
    | ((with_reducible refine WK.isN_conv ?_); first | refine WK.yld rfl convQ ?_)
    | ((with_reducible refine WL.isN_build ?_); first | refine WL.yld rfl buildQ ?_)
    | ((with_reducible refine WK.isN_build ?_); first | refine WK.yld rfl buildQ ?_)
    | ((with_reducible refine WL.isN_call ?_); first | refine WL.yld rfl (Yld.lenB rfl rfl rfl) ?_ | refine WK.step rfl (Qui.call (v := .string (bs Z)) (us := [.string (bs key), .string (bs b)]) rfl rfl rfl (by kernel_rfl) (fun w _ => hck w)) ?_ | refine WL.yld rfl lenQ ?_)
    | ((with_reducible refine WK.isN_call ?_); first | refine WL.yld rfl (Yld.lenB rfl rfl rfl) ?_ | refine WK.step rfl (Qui.call (v := .string (bs Z)) (us := [.string (bs key), .string (bs b)]) rfl rfl rfl (by kernel_rfl) (fun w _ => hck w)) ?_ | refine WK.yld rfl lenQ ?_)
    | ((with_reducible refine WL.isN_alloc ?_); first | refine WL.step rfl (StepTo.allocA rfl rfl rfl rfl (fun _ => ?_)) | refine WL.step rfl (StepTo.alloc1 rfl rfl rfl rfl rfl (fun _ => ?_)))
    | ((with_reducible refine WL.isN_store ?_); first | refine WL.step rfl (StepTo.st1 rfl rfl rfl rfl rfl rfl ?_) | refine WL.step rfl (StepTo.stA rfl rfl rfl rfl rfl rfl rfl ?_) | refine WL.step rfl (StepTo.stR rfl rfl rfl rfl rfl rfl rfl ?_))
    | refine WL.yld rfl (Yld.as (Yld.cutLoS (lo := 32) rfl rfl rfl rfl rfl (by omega)) hbv) ?_
    | refine WK.yld rfl (Yld.cutHiS (hi := 32) rfl rfl rfl rfl rfl (by omega)) ?_
    | with_reducible refine WC.block ?_
    | (refine WC.quiet (i := 4) (by kernel_rfl) (by kernel_rfl) ?_)
    | (refine WC.cond rfl (fun hc => ?_) (fun hc => ?_) <;> (try first | (with_reducible replace hc := of_decide_eq_true hc) | (with_reducible replace hc := of_decide_eq_false hc) | (with_reducible replace hc := eqT hc) | (with_reducible replace hc := eqF hc) | (with_reducible replace hc := neT hc) | (with_reducible replace hc := neF hc) | (with_reducible replace hc := noT hc) | (with_reducible replace hc := noF hc)) <;> (try (exfalso; omega))))
    exact WQ.body (Reads.two rfl (Res1.cellA rfl rfl rfl rfl (AggAt.box 0 rfl rfl)) (Res1.tmp rfl)) fun w' hw' => ⟨rfl, hw'.ext.below⟩
  | true =>
    rw [if_neg (by simp)]
    by_cases hb53 : b.length < 53
    case pos =>
      rw [if_pos hb53]
      refine enterW (fun _ => False) _ Try.func15 rfl (by simp only [Try.ntmps15, List.length_cons, List.length_nil, Nat.reduceAdd, Nat.reduceSub]; rfl) ?_
      repeat' (first
    | refine goS ?_
    | ((with_reducible refine WL.isN_bin ?_); first | refine WL.yld rfl ((Yld.neS rfl rfl rfl).as hne) ?_ | refine WL.yld rfl binQ ?_)
    | ((with_reducible refine WK.isN_bin ?_); first | refine WK.yld rfl ((Yld.neS rfl rfl rfl).as hne) ?_ | refine WK.yld rfl binQ ?_)
    | ((with_reducible refine WL.isN_load ?_); first | refine WL.yld rfl loadQ ?_)
    | ((with_reducible refine WK.isN_load ?_); first | refine WK.yld rfl loadQ ?_)
    | ((with_reducible refine WL.isN_conv ?_); first | refine WL.yld rfl convQ ?_)
    | ((with_reducible refine WK.isN_conv ?_); first | refine WK.yld rfl convQ ?_)
    | ((with_reducible refine WL.isN_build ?_); first | refine WL.yld rfl buildQ ?_)
    | ((with_reducible refine WK.isN_build ?_); first | refine WK.yld rfl buildQ ?_)
    | ((with_reducible refine WL.isN_call ?_); first | refine WL.yld rfl (Yld.lenB rfl rfl rfl) ?_ | refine WK.step rfl (Qui.call (v := .string (bs Z)) (us := [.string (bs key), .string (bs b)]) rfl rfl rfl (by kernel_rfl) (fun w _ => hck w)) ?_ | refine WL.yld rfl lenQ ?_)
    | ((with_reducible refine WK.isN_call ?_); first | refine WL.yld rfl (Yld.lenB rfl rfl rfl) ?_ | refine WK.step rfl (Qui.call (v := .string (bs Z)) (us := [.string (bs key), .string (bs b)]) rfl rfl rfl (by kernel_rfl) (fun w _ => hck w)) ?_ | refine WK.yld rfl lenQ ?_)
    | ((with_reducible refine WL.isN_alloc ?_); first | refine WL.step rfl (StepTo.allocA rfl rfl rfl rfl (fun _ => ?_)) | refine WL.step rfl (StepTo.alloc1 rfl rfl rfl rfl rfl (fun _ => ?_)))
    | ((with_reducible refine WL.isN_store ?_); first | refine WL.step rfl (StepTo.st1 rfl rfl rfl rfl rfl rfl ?_) | refine WL.step rfl (StepTo.stA rfl rfl rfl rfl rfl rfl rfl ?_) | refine WL.step rfl (StepTo.stR rfl rfl rfl rfl rfl rfl rfl ?_))
    | refine WL.yld rfl (Yld.as (Yld.cutLoS (lo := 32) rfl rfl rfl rfl rfl (by omega)) hbv) ?_
    | refine WK.yld rfl (Yld.cutHiS (hi := 32) rfl rfl rfl rfl rfl (by omega)) ?_
    | with_reducible refine WC.block ?_
    | (refine WC.quiet (i := 4) (by kernel_rfl) (by kernel_rfl) ?_)
    | (refine WC.cond rfl (fun hc => ?_) (fun hc => ?_) <;> (try first | (with_reducible replace hc := of_decide_eq_true hc) | (with_reducible replace hc := of_decide_eq_false hc) | (with_reducible replace hc := eqT hc) | (with_reducible replace hc := eqF hc) | (with_reducible replace hc := neT hc) | (with_reducible replace hc := neF hc) | (with_reducible replace hc := noT hc) | (with_reducible replace hc := noF hc)) <;> (try (exfalso; omega))))
      exact WQ.body (Reads.two rfl (Res1.cellA rfl rfl rfl rfl (AggAt.box 0 rfl rfl)) (Res1.tmp rfl)) fun w' hw' => ⟨rfl, hw'.ext.below⟩
    rw [if_neg hb53]
    have hok := Ck.parse_ok (b := b) (by omega)
    have hpe : Ck.parse b = ⟨Ck.val (Ck.cut b 0 4), Ck.val (Ck.cut b 4 8), Ck.val (Ck.cut b 8 12), Ck.val (Ck.cut b 12 16), Ck.val (Ck.cut b 16 20), Ck.val (Ck.cut b 20 24), Ck.val (Ck.cut b 24 28), Ck.val (Ck.cut b 28 30), Ck.val (Ck.cut b 30 32), Ck.val (Ck.cut b 32 34), Ck.val (Ck.cut b 34 36), b.drop 53, Ck.w64 (Ck.val (Ck.cut b 36 44)), Ck.w64 (Ck.val (Ck.cut b 44 52))⟩ := rfl
    have hbp := Ck.bytes_parse (b := b) (by omega)
    have hpl : (b.drop 53).length = b.length - 53 := List.length_drop
    have hrq := fun w => ckrright_q (Ck.parse b) hok (by show (b.drop 53).length ≤ 1000000; omega) w
    have hbq := fun hr w => rbytes_q (Ck.parse b) hok hr (by show (b.drop 53).length ≤ 1000000; omega) w
    have t0 := fun w => value_q (Ck.cut b 0 4) (by rw [Ck.cut_len (by omega)]; omega) w
    have u0 := u32_64 (n := Ck.val (Ck.cut b 0 4)) hok.h1
    generalize hV0 : Ck.w64 (Ck.val (Ck.cut b 0 4)) = V0 at t0 u0
    clear hV0
    generalize Ck.val (Ck.cut b 0 4) = v0 at *
    have t1 := fun w => value_q (Ck.cut b 4 8) (by rw [Ck.cut_len (by omega)]; omega) w
    have u1 := u32_64 (n := Ck.val (Ck.cut b 4 8)) hok.h2
    generalize hV1 : Ck.w64 (Ck.val (Ck.cut b 4 8)) = V1 at t1 u1
    clear hV1
    generalize Ck.val (Ck.cut b 4 8) = v1 at *
    have t2 := fun w => value_q (Ck.cut b 8 12) (by rw [Ck.cut_len (by omega)]; omega) w
    have u2 := u32_64 (n := Ck.val (Ck.cut b 8 12)) hok.h3
    generalize hV2 : Ck.w64 (Ck.val (Ck.cut b 8 12)) = V2 at t2 u2
    clear hV2
    generalize Ck.val (Ck.cut b 8 12) = v2 at *
    have t3 := fun w => value_q (Ck.cut b 12 16) (by rw [Ck.cut_len (by omega)]; omega) w
    have u3 := u32_64 (n := Ck.val (Ck.cut b 12 16)) hok.h4
    generalize hV3 : Ck.w64 (Ck.val (Ck.cut b 12 16)) = V3 at t3 u3
    clear hV3
    generalize Ck.val (Ck.cut b 12 16) = v3 at *
    have t4 := fun w => value_q (Ck.cut b 16 20) (by rw [Ck.cut_len (by omega)]; omega) w
    have u4 := u32_64 (n := Ck.val (Ck.cut b 16 20)) hok.h5
    generalize hV4 : Ck.w64 (Ck.val (Ck.cut b 16 20)) = V4 at t4 u4
    clear hV4
    generalize Ck.val (Ck.cut b 16 20) = v4 at *
    have t5 := fun w => value_q (Ck.cut b 20 24) (by rw [Ck.cut_len (by omega)]; omega) w
    have u5 := u32_64 (n := Ck.val (Ck.cut b 20 24)) hok.h6
    generalize hV5 : Ck.w64 (Ck.val (Ck.cut b 20 24)) = V5 at t5 u5
    clear hV5
    generalize Ck.val (Ck.cut b 20 24) = v5 at *
    have t6 := fun w => value_q (Ck.cut b 24 28) (by rw [Ck.cut_len (by omega)]; omega) w
    have u6 := u32_64 (n := Ck.val (Ck.cut b 24 28)) hok.h7
    generalize hV6 : Ck.w64 (Ck.val (Ck.cut b 24 28)) = V6 at t6 u6
    clear hV6
    generalize Ck.val (Ck.cut b 24 28) = v6 at *
    have t7 := fun w => value_q (Ck.cut b 28 30) (by rw [Ck.cut_len (by omega)]; omega) w
    have u7 := u16_64 (n := Ck.val (Ck.cut b 28 30)) hok.h8
    generalize hV7 : Ck.w64 (Ck.val (Ck.cut b 28 30)) = V7 at t7 u7
    clear hV7
    generalize Ck.val (Ck.cut b 28 30) = v7 at *
    have t8 := fun w => value_q (Ck.cut b 30 32) (by rw [Ck.cut_len (by omega)]; omega) w
    have u8 := u16_64 (n := Ck.val (Ck.cut b 30 32)) hok.h9
    generalize hV8 : Ck.w64 (Ck.val (Ck.cut b 30 32)) = V8 at t8 u8
    clear hV8
    generalize Ck.val (Ck.cut b 30 32) = v8 at *
    have t9 := fun w => value_q (Ck.cut b 32 34) (by rw [Ck.cut_len (by omega)]; omega) w
    have u9 := u16_64 (n := Ck.val (Ck.cut b 32 34)) hok.h10
    generalize hV9 : Ck.w64 (Ck.val (Ck.cut b 32 34)) = V9 at t9 u9
    clear hV9
    generalize Ck.val (Ck.cut b 32 34) = v9 at *
    have t10 := fun w => value_q (Ck.cut b 34 36) (by rw [Ck.cut_len (by omega)]; omega) w
    have u10 := u16_64 (n := Ck.val (Ck.cut b 34 36)) hok.h11
    generalize hV10 : Ck.w64 (Ck.val (Ck.cut b 34 36)) = V10 at t10 u10
    clear hV10
    generalize Ck.val (Ck.cut b 34 36) = v10 at *
    have t11 := fun w => value_q (Ck.cut b 36 44) (by rw [Ck.cut_len (by omega)]; omega) w
    generalize Ck.w64 (Ck.val (Ck.cut b 36 44)) = v11 at *
    have t12 := fun w => value_q (Ck.cut b 44 52) (by rw [Ck.cut_len (by omega)]; omega) w
    generalize Ck.w64 (Ck.val (Ck.cut b 44 52)) = v12 at *
    generalize Ck.val (Ck.cut b 52 53) = z at *
    have hcd : ∀ i j, (b.take j).drop i = Ck.cut b i j := fun _ _ => rfl
    generalize Ck.parse b = s at *
    subst hpe
    refine enterW (fun _ => False) _ Try.func15 rfl (by simp only [Try.ntmps15, List.length_cons, List.length_nil, Nat.reduceAdd, Nat.reduceSub]; rfl) ?_
    repeat' (first
    | refine goS ?_
    | ((with_reducible refine WL.isN_bin ?_); first | refine WL.yld rfl ((Yld.neS rfl rfl rfl).as hne) ?_ | refine WL.yld rfl binQ ?_)
    | ((with_reducible refine WK.isN_bin ?_); first | refine WK.yld rfl ((Yld.neS rfl rfl rfl).as hne) ?_ | refine WK.yld rfl binQ ?_)
    | ((with_reducible refine WL.isN_load ?_); first | refine WL.yld rfl loadQ ?_)
    | ((with_reducible refine WK.isN_load ?_); first | refine WK.yld rfl loadQ ?_)
    | ((with_reducible refine WL.isN_conv ?_); first | refine WL.yld rfl convQ ?_)
    | ((with_reducible refine WK.isN_conv ?_); first | refine WK.yld rfl convQ ?_)
    | ((with_reducible refine WL.isN_build ?_); first | refine WL.yld rfl buildQ ?_)
    | ((with_reducible refine WK.isN_build ?_); first | refine WK.yld rfl buildQ ?_)
    | ((with_reducible refine WL.isN_call ?_); first | refine WL.yld rfl (Yld.lenB rfl rfl rfl) ?_ | refine WK.step rfl (Qui.call (v := .string (bs Z)) (us := [.string (bs key), .string (bs b)]) rfl rfl rfl (by kernel_rfl) (fun w _ => hck w)) ?_ | refine WL.yld rfl lenQ ?_)
    | ((with_reducible refine WK.isN_call ?_); first | refine WL.yld rfl (Yld.lenB rfl rfl rfl) ?_ | refine WK.step rfl (Qui.call (v := .string (bs Z)) (us := [.string (bs key), .string (bs b)]) rfl rfl rfl (by kernel_rfl) (fun w _ => hck w)) ?_ | refine WK.yld rfl lenQ ?_)
    | ((with_reducible refine WL.isN_alloc ?_); first | refine WL.step rfl (StepTo.allocA rfl rfl rfl rfl (fun _ => ?_)) | refine WL.step rfl (StepTo.alloc1 rfl rfl rfl rfl rfl (fun _ => ?_)))
    | ((with_reducible refine WL.isN_store ?_); first | refine WL.step rfl (StepTo.st1 rfl rfl rfl rfl rfl rfl ?_) | refine WL.step rfl (StepTo.stA rfl rfl rfl rfl rfl rfl rfl ?_) | refine WL.step rfl (StepTo.stR rfl rfl rfl rfl rfl rfl rfl ?_))
    | refine WL.yld rfl (Yld.as (Yld.cutLoS (lo := 32) rfl rfl rfl rfl rfl (by omega)) hbv) ?_
    | refine WK.yld rfl (Yld.cutHiS (hi := 32) rfl rfl rfl rfl rfl (by omega)) ?_
    | with_reducible refine WC.block ?_
    | (refine WC.quiet (i := 4) (by kernel_rfl) (by kernel_rfl) ?_)
    | (refine WC.cond rfl (fun hc => ?_) (fun hc => ?_) <;> (try first | (with_reducible replace hc := of_decide_eq_true hc) | (with_reducible replace hc := of_decide_eq_false hc) | (with_reducible replace hc := eqT hc) | (with_reducible replace hc := eqF hc) | (with_reducible replace hc := neT hc) | (with_reducible replace hc := neF hc) | (with_reducible replace hc := noT hc) | (with_reducible replace hc := noF hc)) <;> (try (exfalso; omega))))
    rename_i bR
    refine WC.cut (fun τ H => ∃ bS, τ = [(4, .pointer (some ⟨bR, 0, none⟩)), (6, .string (bs b)), (7, .pointer (some ⟨bS, 0, none⟩))] ∧ H = [.box bS 32 [.int .u32 v0, .int .u32 v1, .int .u32 v2, .int .u32 v3, .int .u32 v4, .int .u32 v5, .int .u32 v6, .int .u16 0, .int .u16 0, .int .u16 0, .int .u16 0, .string { data := #[] }, .int .i64 0, .int .i64 0], .box bR 32 [.int .u32 0, .int .u32 0, .int .u32 0, .int .u32 0, .int .u32 0, .int .u32 0, .int .u32 0, .int .u16 0, .int .u16 0, .int .u16 0, .int .u16 0, .string { data := #[] }, .int .i64 0, .int .i64 0]]) ?_ ?_
    refine WC.anyI [0] (by kernel_rfl) ?_
    refine WA.take (idx := [0]) 0 rfl (by kernel_rfl) (by kernel_rfl) (by kernel_rfl) rfl ⟨by decide, rfl⟩ (Yld.pure rfl nrmQ) ?_
    refine WA.take (idx := [0]) 1 rfl (by kernel_rfl) (by kernel_rfl) (by kernel_rfl) rfl ⟨by decide, rfl⟩ (by first | exact Yld.cutS (lo := 0) (hi := 4) rfl rfl rfl rfl rfl rfl (by omega) (by omega) (by omega) | exact Yld.cutS (lo := 4) (hi := 8) rfl rfl rfl rfl rfl rfl (by omega) (by omega) (by omega) | exact Yld.cutS (lo := 8) (hi := 12) rfl rfl rfl rfl rfl rfl (by omega) (by omega) (by omega) | exact Yld.cutS (lo := 12) (hi := 16) rfl rfl rfl rfl rfl rfl (by omega) (by omega) (by omega) | exact Yld.cutS (lo := 16) (hi := 20) rfl rfl rfl rfl rfl rfl (by omega) (by omega) (by omega) | exact Yld.cutS (lo := 20) (hi := 24) rfl rfl rfl rfl rfl rfl (by omega) (by omega) (by omega) | exact Yld.cutS (lo := 24) (hi := 28) rfl rfl rfl rfl rfl rfl (by omega) (by omega) (by omega)) ?_
    refine WA.take (idx := [0]) 4 rfl (by kernel_rfl) (by kernel_rfl) (by kernel_rfl) rfl ⟨by decide, rfl⟩ (Yld.pure rfl nrmQ) ?_
    refine WA.take (idx := [0]) 5 rfl (by kernel_rfl) (by kernel_rfl) (by kernel_rfl) rfl ⟨by decide, rfl⟩ (by first | exact Yld.cutS (lo := 0) (hi := 4) rfl rfl rfl rfl rfl rfl (by omega) (by omega) (by omega) | exact Yld.cutS (lo := 4) (hi := 8) rfl rfl rfl rfl rfl rfl (by omega) (by omega) (by omega) | exact Yld.cutS (lo := 8) (hi := 12) rfl rfl rfl rfl rfl rfl (by omega) (by omega) (by omega) | exact Yld.cutS (lo := 12) (hi := 16) rfl rfl rfl rfl rfl rfl (by omega) (by omega) (by omega) | exact Yld.cutS (lo := 16) (hi := 20) rfl rfl rfl rfl rfl rfl (by omega) (by omega) (by omega) | exact Yld.cutS (lo := 20) (hi := 24) rfl rfl rfl rfl rfl rfl (by omega) (by omega) (by omega) | exact Yld.cutS (lo := 24) (hi := 28) rfl rfl rfl rfl rfl rfl (by omega) (by omega) (by omega)) ?_
    refine WA.take (idx := [0]) 8 rfl (by kernel_rfl) (by kernel_rfl) (by kernel_rfl) rfl ⟨by decide, rfl⟩ (Yld.pure rfl nrmQ) ?_
    refine WA.take (idx := [0]) 9 rfl (by kernel_rfl) (by kernel_rfl) (by kernel_rfl) rfl ⟨by decide, rfl⟩ (by first | exact Yld.cutS (lo := 0) (hi := 4) rfl rfl rfl rfl rfl rfl (by omega) (by omega) (by omega) | exact Yld.cutS (lo := 4) (hi := 8) rfl rfl rfl rfl rfl rfl (by omega) (by omega) (by omega) | exact Yld.cutS (lo := 8) (hi := 12) rfl rfl rfl rfl rfl rfl (by omega) (by omega) (by omega) | exact Yld.cutS (lo := 12) (hi := 16) rfl rfl rfl rfl rfl rfl (by omega) (by omega) (by omega) | exact Yld.cutS (lo := 16) (hi := 20) rfl rfl rfl rfl rfl rfl (by omega) (by omega) (by omega) | exact Yld.cutS (lo := 20) (hi := 24) rfl rfl rfl rfl rfl rfl (by omega) (by omega) (by omega) | exact Yld.cutS (lo := 24) (hi := 28) rfl rfl rfl rfl rfl rfl (by omega) (by omega) (by omega)) ?_
    refine WA.take (idx := [0]) 12 rfl (by kernel_rfl) (by kernel_rfl) (by kernel_rfl) rfl ⟨by decide, rfl⟩ (Yld.pure rfl nrmQ) ?_
    refine WA.take (idx := [0]) 13 rfl (by kernel_rfl) (by kernel_rfl) (by kernel_rfl) rfl ⟨by decide, rfl⟩ (by first | exact Yld.cutS (lo := 0) (hi := 4) rfl rfl rfl rfl rfl rfl (by omega) (by omega) (by omega) | exact Yld.cutS (lo := 4) (hi := 8) rfl rfl rfl rfl rfl rfl (by omega) (by omega) (by omega) | exact Yld.cutS (lo := 8) (hi := 12) rfl rfl rfl rfl rfl rfl (by omega) (by omega) (by omega) | exact Yld.cutS (lo := 12) (hi := 16) rfl rfl rfl rfl rfl rfl (by omega) (by omega) (by omega) | exact Yld.cutS (lo := 16) (hi := 20) rfl rfl rfl rfl rfl rfl (by omega) (by omega) (by omega) | exact Yld.cutS (lo := 20) (hi := 24) rfl rfl rfl rfl rfl rfl (by omega) (by omega) (by omega) | exact Yld.cutS (lo := 24) (hi := 28) rfl rfl rfl rfl rfl rfl (by omega) (by omega) (by omega)) ?_
    refine WA.take (idx := [0]) 16 rfl (by kernel_rfl) (by kernel_rfl) (by kernel_rfl) rfl ⟨by decide, rfl⟩ (Yld.pure rfl nrmQ) ?_
    refine WA.take (idx := [0]) 17 rfl (by kernel_rfl) (by kernel_rfl) (by kernel_rfl) rfl ⟨by decide, rfl⟩ (by first | exact Yld.cutS (lo := 0) (hi := 4) rfl rfl rfl rfl rfl rfl (by omega) (by omega) (by omega) | exact Yld.cutS (lo := 4) (hi := 8) rfl rfl rfl rfl rfl rfl (by omega) (by omega) (by omega) | exact Yld.cutS (lo := 8) (hi := 12) rfl rfl rfl rfl rfl rfl (by omega) (by omega) (by omega) | exact Yld.cutS (lo := 12) (hi := 16) rfl rfl rfl rfl rfl rfl (by omega) (by omega) (by omega) | exact Yld.cutS (lo := 16) (hi := 20) rfl rfl rfl rfl rfl rfl (by omega) (by omega) (by omega) | exact Yld.cutS (lo := 20) (hi := 24) rfl rfl rfl rfl rfl rfl (by omega) (by omega) (by omega) | exact Yld.cutS (lo := 24) (hi := 28) rfl rfl rfl rfl rfl rfl (by omega) (by omega) (by omega)) ?_
    refine WA.take (idx := [0]) 20 rfl (by kernel_rfl) (by kernel_rfl) (by kernel_rfl) rfl ⟨by decide, rfl⟩ (Yld.pure rfl nrmQ) ?_
    refine WA.take (idx := [0]) 21 rfl (by kernel_rfl) (by kernel_rfl) (by kernel_rfl) rfl ⟨by decide, rfl⟩ (by first | exact Yld.cutS (lo := 0) (hi := 4) rfl rfl rfl rfl rfl rfl (by omega) (by omega) (by omega) | exact Yld.cutS (lo := 4) (hi := 8) rfl rfl rfl rfl rfl rfl (by omega) (by omega) (by omega) | exact Yld.cutS (lo := 8) (hi := 12) rfl rfl rfl rfl rfl rfl (by omega) (by omega) (by omega) | exact Yld.cutS (lo := 12) (hi := 16) rfl rfl rfl rfl rfl rfl (by omega) (by omega) (by omega) | exact Yld.cutS (lo := 16) (hi := 20) rfl rfl rfl rfl rfl rfl (by omega) (by omega) (by omega) | exact Yld.cutS (lo := 20) (hi := 24) rfl rfl rfl rfl rfl rfl (by omega) (by omega) (by omega) | exact Yld.cutS (lo := 24) (hi := 28) rfl rfl rfl rfl rfl rfl (by omega) (by omega) (by omega)) ?_
    refine WA.take (idx := [0]) 24 rfl (by kernel_rfl) (by kernel_rfl) (by kernel_rfl) rfl ⟨by decide, rfl⟩ (Yld.pure rfl nrmQ) ?_
    refine WA.take (idx := [0]) 25 rfl (by kernel_rfl) (by kernel_rfl) (by kernel_rfl) rfl ⟨by decide, rfl⟩ (by first | exact Yld.cutS (lo := 0) (hi := 4) rfl rfl rfl rfl rfl rfl (by omega) (by omega) (by omega) | exact Yld.cutS (lo := 4) (hi := 8) rfl rfl rfl rfl rfl rfl (by omega) (by omega) (by omega) | exact Yld.cutS (lo := 8) (hi := 12) rfl rfl rfl rfl rfl rfl (by omega) (by omega) (by omega) | exact Yld.cutS (lo := 12) (hi := 16) rfl rfl rfl rfl rfl rfl (by omega) (by omega) (by omega) | exact Yld.cutS (lo := 16) (hi := 20) rfl rfl rfl rfl rfl rfl (by omega) (by omega) (by omega) | exact Yld.cutS (lo := 20) (hi := 24) rfl rfl rfl rfl rfl rfl (by omega) (by omega) (by omega) | exact Yld.cutS (lo := 24) (hi := 28) rfl rfl rfl rfl rfl rfl (by omega) (by omega) (by omega)) ?_
    refine WA.two 2 29 (by kernel_rfl) rfl rfl rfl rfl ?_ ?_
    · refine StepTo.callV (v := .int .i64 V0) (us := [.string (bs (Ck.cut b 0 4))]) rfl rfl rfl rfl rfl (by kernel_rfl) (fun w hw => t0 w) ⟨⟨[0], by decide, rfl⟩, ?_⟩
      refine WA.take (idx := [0]) 3 rfl (by kernel_rfl) (by kernel_rfl) (by kernel_rfl) rfl ⟨by decide, rfl⟩ (by first | exact Yld.convInt rfl rfl rfl rfl u0 | exact Yld.convInt rfl rfl rfl rfl u1 | exact Yld.convInt rfl rfl rfl rfl u2 | exact Yld.convInt rfl rfl rfl rfl u3 | exact Yld.convInt rfl rfl rfl rfl u4 | exact Yld.convInt rfl rfl rfl rfl u5 | exact Yld.convInt rfl rfl rfl rfl u6 | exact Yld.convInt rfl rfl rfl rfl nrmQ) ?_
      refine WA.two 6 29 (by kernel_rfl) rfl rfl rfl rfl ?_ ?_
      · refine StepTo.callV (v := .int .i64 V1) (us := [.string (bs (Ck.cut b 4 8))]) rfl rfl rfl rfl rfl (by kernel_rfl) (fun w hw => t1 w) ⟨⟨[0], by decide, rfl⟩, ?_⟩
        refine WA.take (idx := [0]) 7 rfl (by kernel_rfl) (by kernel_rfl) (by kernel_rfl) rfl ⟨by decide, rfl⟩ (by first | exact Yld.convInt rfl rfl rfl rfl u0 | exact Yld.convInt rfl rfl rfl rfl u1 | exact Yld.convInt rfl rfl rfl rfl u2 | exact Yld.convInt rfl rfl rfl rfl u3 | exact Yld.convInt rfl rfl rfl rfl u4 | exact Yld.convInt rfl rfl rfl rfl u5 | exact Yld.convInt rfl rfl rfl rfl u6 | exact Yld.convInt rfl rfl rfl rfl nrmQ) ?_
        refine WA.two 10 29 (by kernel_rfl) rfl rfl rfl rfl ?_ ?_
        · refine StepTo.callV (v := .int .i64 V2) (us := [.string (bs (Ck.cut b 8 12))]) rfl rfl rfl rfl rfl (by kernel_rfl) (fun w hw => t2 w) ⟨⟨[0], by decide, rfl⟩, ?_⟩
          refine WA.take (idx := [0]) 11 rfl (by kernel_rfl) (by kernel_rfl) (by kernel_rfl) rfl ⟨by decide, rfl⟩ (by first | exact Yld.convInt rfl rfl rfl rfl u0 | exact Yld.convInt rfl rfl rfl rfl u1 | exact Yld.convInt rfl rfl rfl rfl u2 | exact Yld.convInt rfl rfl rfl rfl u3 | exact Yld.convInt rfl rfl rfl rfl u4 | exact Yld.convInt rfl rfl rfl rfl u5 | exact Yld.convInt rfl rfl rfl rfl u6 | exact Yld.convInt rfl rfl rfl rfl nrmQ) ?_
          refine WA.two 14 29 (by kernel_rfl) rfl rfl rfl rfl ?_ ?_
          · refine StepTo.callV (v := .int .i64 V3) (us := [.string (bs (Ck.cut b 12 16))]) rfl rfl rfl rfl rfl (by kernel_rfl) (fun w hw => t3 w) ⟨⟨[0], by decide, rfl⟩, ?_⟩
            refine WA.take (idx := [0]) 15 rfl (by kernel_rfl) (by kernel_rfl) (by kernel_rfl) rfl ⟨by decide, rfl⟩ (by first | exact Yld.convInt rfl rfl rfl rfl u0 | exact Yld.convInt rfl rfl rfl rfl u1 | exact Yld.convInt rfl rfl rfl rfl u2 | exact Yld.convInt rfl rfl rfl rfl u3 | exact Yld.convInt rfl rfl rfl rfl u4 | exact Yld.convInt rfl rfl rfl rfl u5 | exact Yld.convInt rfl rfl rfl rfl u6 | exact Yld.convInt rfl rfl rfl rfl nrmQ) ?_
            refine WA.two 18 29 (by kernel_rfl) rfl rfl rfl rfl ?_ ?_
            · refine StepTo.callV (v := .int .i64 V4) (us := [.string (bs (Ck.cut b 16 20))]) rfl rfl rfl rfl rfl (by kernel_rfl) (fun w hw => t4 w) ⟨⟨[0], by decide, rfl⟩, ?_⟩
              refine WA.take (idx := [0]) 19 rfl (by kernel_rfl) (by kernel_rfl) (by kernel_rfl) rfl ⟨by decide, rfl⟩ (by first | exact Yld.convInt rfl rfl rfl rfl u0 | exact Yld.convInt rfl rfl rfl rfl u1 | exact Yld.convInt rfl rfl rfl rfl u2 | exact Yld.convInt rfl rfl rfl rfl u3 | exact Yld.convInt rfl rfl rfl rfl u4 | exact Yld.convInt rfl rfl rfl rfl u5 | exact Yld.convInt rfl rfl rfl rfl u6 | exact Yld.convInt rfl rfl rfl rfl nrmQ) ?_
              refine WA.two 22 29 (by kernel_rfl) rfl rfl rfl rfl ?_ ?_
              · refine StepTo.callV (v := .int .i64 V5) (us := [.string (bs (Ck.cut b 20 24))]) rfl rfl rfl rfl rfl (by kernel_rfl) (fun w hw => t5 w) ⟨⟨[0], by decide, rfl⟩, ?_⟩
                refine WA.take (idx := [0]) 23 rfl (by kernel_rfl) (by kernel_rfl) (by kernel_rfl) rfl ⟨by decide, rfl⟩ (by first | exact Yld.convInt rfl rfl rfl rfl u0 | exact Yld.convInt rfl rfl rfl rfl u1 | exact Yld.convInt rfl rfl rfl rfl u2 | exact Yld.convInt rfl rfl rfl rfl u3 | exact Yld.convInt rfl rfl rfl rfl u4 | exact Yld.convInt rfl rfl rfl rfl u5 | exact Yld.convInt rfl rfl rfl rfl u6 | exact Yld.convInt rfl rfl rfl rfl nrmQ) ?_
                refine WA.two 26 29 (by kernel_rfl) rfl rfl rfl rfl ?_ ?_
                · refine StepTo.callV (v := .int .i64 V6) (us := [.string (bs (Ck.cut b 24 28))]) rfl rfl rfl rfl rfl (by kernel_rfl) (fun w hw => t6 w) ⟨⟨[0], by decide, rfl⟩, ?_⟩
                  refine WA.take (idx := [0]) 27 rfl (by kernel_rfl) (by kernel_rfl) (by kernel_rfl) rfl ⟨by decide, rfl⟩ (by first | exact Yld.convInt rfl rfl rfl rfl u0 | exact Yld.convInt rfl rfl rfl rfl u1 | exact Yld.convInt rfl rfl rfl rfl u2 | exact Yld.convInt rfl rfl rfl rfl u3 | exact Yld.convInt rfl rfl rfl rfl u4 | exact Yld.convInt rfl rfl rfl rfl u5 | exact Yld.convInt rfl rfl rfl rfl u6 | exact Yld.convInt rfl rfl rfl rfl nrmQ) ?_
                  refine WA.take (idx := [0]) 28 rfl (by kernel_rfl) (by kernel_rfl) (by kernel_rfl) rfl ⟨by decide, rfl⟩ (Yld.build (cells := #[.int .u32 v0, .int .u32 v1, .int .u32 v2, .int .u32 v3, .int .u32 v4, .int .u32 v5, .int .u32 v6, .int .u16 0, .int .u16 0, .int .u16 0, .int .u16 0, .string { data := #[] }, .int .i64 0, .int .i64 0]) rfl rfl (by kernel_rfl)) ?_
                  refine WA.one 29 (by kernel_rfl) rfl rfl ?_
                  first | refine StepTo.allocA rfl rfl rfl rfl (fun _ => ⟨⟨[1], by decide, rfl⟩, ?_⟩) | refine StepTo.alloc1 rfl rfl rfl rfl rfl (fun _ => ⟨⟨[1], by decide, rfl⟩, ?_⟩)
                  refine WA.one 30 (by kernel_rfl) rfl rfl ?_
                  first | refine StepTo.storeA 0 rfl rfl rfl rfl rfl rfl rfl rfl overQ setQ ⟨⟨[1], by decide, rfl⟩, ?_⟩ | refine StepTo.store1 0 rfl rfl rfl rfl rfl rfl rfl overQ setQ ⟨⟨[1], by decide, rfl⟩, ?_⟩
                  refine WA.done (by kernel_rfl) ?_
                  refine WQ.thenN ?_
                  exact WQ.met _ _ [0, 1] (by repeat (first | exact Sub.nil | refine Sub.cons rfl ?_ | refine Sub.consE rfl (int_eq (by omega)) ?_)) ⟨by decide, rfl⟩ ⟨_, rfl, rfl⟩
                · first | refine StepTo.allocA rfl rfl rfl rfl (fun _ => ⟨⟨[1], by decide, rfl⟩, ?_⟩) | refine StepTo.alloc1 rfl rfl rfl rfl rfl (fun _ => ⟨⟨[1], by decide, rfl⟩, ?_⟩)
                  refine WA.one 26 (by kernel_rfl) rfl rfl ?_
                  refine StepTo.callV (v := .int .i64 V6) (us := [.string (bs (Ck.cut b 24 28))]) rfl rfl rfl rfl rfl (by kernel_rfl) (fun w hw => t6 w) ⟨⟨[1], by decide, rfl⟩, ?_⟩
                  refine WA.take (idx := [1]) 27 rfl (by kernel_rfl) (by kernel_rfl) (by kernel_rfl) rfl ⟨by decide, rfl⟩ (by first | exact Yld.convInt rfl rfl rfl rfl u0 | exact Yld.convInt rfl rfl rfl rfl u1 | exact Yld.convInt rfl rfl rfl rfl u2 | exact Yld.convInt rfl rfl rfl rfl u3 | exact Yld.convInt rfl rfl rfl rfl u4 | exact Yld.convInt rfl rfl rfl rfl u5 | exact Yld.convInt rfl rfl rfl rfl u6 | exact Yld.convInt rfl rfl rfl rfl nrmQ) ?_
                  refine WA.take (idx := [1]) 28 rfl (by kernel_rfl) (by kernel_rfl) (by kernel_rfl) rfl ⟨by decide, rfl⟩ (Yld.build (cells := #[.int .u32 v0, .int .u32 v1, .int .u32 v2, .int .u32 v3, .int .u32 v4, .int .u32 v5, .int .u32 v6, .int .u16 0, .int .u16 0, .int .u16 0, .int .u16 0, .string { data := #[] }, .int .i64 0, .int .i64 0]) rfl rfl (by kernel_rfl)) ?_
                  refine WA.one 30 (by kernel_rfl) rfl rfl ?_
                  first | refine StepTo.storeA 0 rfl rfl rfl rfl rfl rfl rfl rfl overQ setQ ⟨⟨[1], by decide, rfl⟩, ?_⟩ | refine StepTo.store1 0 rfl rfl rfl rfl rfl rfl rfl overQ setQ ⟨⟨[1], by decide, rfl⟩, ?_⟩
                  refine WA.done (by kernel_rfl) ?_
                  refine WQ.thenN ?_
                  exact WQ.met _ _ [0, 1] (by repeat (first | exact Sub.nil | refine Sub.cons rfl ?_ | refine Sub.consE rfl (int_eq (by omega)) ?_)) ⟨by decide, rfl⟩ ⟨_, rfl, rfl⟩
              · first | refine StepTo.allocA rfl rfl rfl rfl (fun _ => ⟨⟨[1], by decide, rfl⟩, ?_⟩) | refine StepTo.alloc1 rfl rfl rfl rfl rfl (fun _ => ⟨⟨[1], by decide, rfl⟩, ?_⟩)
                refine WA.one 22 (by kernel_rfl) rfl rfl ?_
                refine StepTo.callV (v := .int .i64 V5) (us := [.string (bs (Ck.cut b 20 24))]) rfl rfl rfl rfl rfl (by kernel_rfl) (fun w hw => t5 w) ⟨⟨[1], by decide, rfl⟩, ?_⟩
                refine WA.take (idx := [1]) 23 rfl (by kernel_rfl) (by kernel_rfl) (by kernel_rfl) rfl ⟨by decide, rfl⟩ (by first | exact Yld.convInt rfl rfl rfl rfl u0 | exact Yld.convInt rfl rfl rfl rfl u1 | exact Yld.convInt rfl rfl rfl rfl u2 | exact Yld.convInt rfl rfl rfl rfl u3 | exact Yld.convInt rfl rfl rfl rfl u4 | exact Yld.convInt rfl rfl rfl rfl u5 | exact Yld.convInt rfl rfl rfl rfl u6 | exact Yld.convInt rfl rfl rfl rfl nrmQ) ?_
                refine WA.one 26 (by kernel_rfl) rfl rfl ?_
                refine StepTo.callV (v := .int .i64 V6) (us := [.string (bs (Ck.cut b 24 28))]) rfl rfl rfl rfl rfl (by kernel_rfl) (fun w hw => t6 w) ⟨⟨[1], by decide, rfl⟩, ?_⟩
                refine WA.take (idx := [1]) 27 rfl (by kernel_rfl) (by kernel_rfl) (by kernel_rfl) rfl ⟨by decide, rfl⟩ (by first | exact Yld.convInt rfl rfl rfl rfl u0 | exact Yld.convInt rfl rfl rfl rfl u1 | exact Yld.convInt rfl rfl rfl rfl u2 | exact Yld.convInt rfl rfl rfl rfl u3 | exact Yld.convInt rfl rfl rfl rfl u4 | exact Yld.convInt rfl rfl rfl rfl u5 | exact Yld.convInt rfl rfl rfl rfl u6 | exact Yld.convInt rfl rfl rfl rfl nrmQ) ?_
                refine WA.take (idx := [1]) 28 rfl (by kernel_rfl) (by kernel_rfl) (by kernel_rfl) rfl ⟨by decide, rfl⟩ (Yld.build (cells := #[.int .u32 v0, .int .u32 v1, .int .u32 v2, .int .u32 v3, .int .u32 v4, .int .u32 v5, .int .u32 v6, .int .u16 0, .int .u16 0, .int .u16 0, .int .u16 0, .string { data := #[] }, .int .i64 0, .int .i64 0]) rfl rfl (by kernel_rfl)) ?_
                refine WA.one 30 (by kernel_rfl) rfl rfl ?_
                first | refine StepTo.storeA 0 rfl rfl rfl rfl rfl rfl rfl rfl overQ setQ ⟨⟨[1], by decide, rfl⟩, ?_⟩ | refine StepTo.store1 0 rfl rfl rfl rfl rfl rfl rfl overQ setQ ⟨⟨[1], by decide, rfl⟩, ?_⟩
                refine WA.done (by kernel_rfl) ?_
                refine WQ.thenN ?_
                exact WQ.met _ _ [0, 1] (by repeat (first | exact Sub.nil | refine Sub.cons rfl ?_ | refine Sub.consE rfl (int_eq (by omega)) ?_)) ⟨by decide, rfl⟩ ⟨_, rfl, rfl⟩
            · first | refine StepTo.allocA rfl rfl rfl rfl (fun _ => ⟨⟨[1], by decide, rfl⟩, ?_⟩) | refine StepTo.alloc1 rfl rfl rfl rfl rfl (fun _ => ⟨⟨[1], by decide, rfl⟩, ?_⟩)
              refine WA.one 18 (by kernel_rfl) rfl rfl ?_
              refine StepTo.callV (v := .int .i64 V4) (us := [.string (bs (Ck.cut b 16 20))]) rfl rfl rfl rfl rfl (by kernel_rfl) (fun w hw => t4 w) ⟨⟨[1], by decide, rfl⟩, ?_⟩
              refine WA.take (idx := [1]) 19 rfl (by kernel_rfl) (by kernel_rfl) (by kernel_rfl) rfl ⟨by decide, rfl⟩ (by first | exact Yld.convInt rfl rfl rfl rfl u0 | exact Yld.convInt rfl rfl rfl rfl u1 | exact Yld.convInt rfl rfl rfl rfl u2 | exact Yld.convInt rfl rfl rfl rfl u3 | exact Yld.convInt rfl rfl rfl rfl u4 | exact Yld.convInt rfl rfl rfl rfl u5 | exact Yld.convInt rfl rfl rfl rfl u6 | exact Yld.convInt rfl rfl rfl rfl nrmQ) ?_
              refine WA.one 22 (by kernel_rfl) rfl rfl ?_
              refine StepTo.callV (v := .int .i64 V5) (us := [.string (bs (Ck.cut b 20 24))]) rfl rfl rfl rfl rfl (by kernel_rfl) (fun w hw => t5 w) ⟨⟨[1], by decide, rfl⟩, ?_⟩
              refine WA.take (idx := [1]) 23 rfl (by kernel_rfl) (by kernel_rfl) (by kernel_rfl) rfl ⟨by decide, rfl⟩ (by first | exact Yld.convInt rfl rfl rfl rfl u0 | exact Yld.convInt rfl rfl rfl rfl u1 | exact Yld.convInt rfl rfl rfl rfl u2 | exact Yld.convInt rfl rfl rfl rfl u3 | exact Yld.convInt rfl rfl rfl rfl u4 | exact Yld.convInt rfl rfl rfl rfl u5 | exact Yld.convInt rfl rfl rfl rfl u6 | exact Yld.convInt rfl rfl rfl rfl nrmQ) ?_
              refine WA.one 26 (by kernel_rfl) rfl rfl ?_
              refine StepTo.callV (v := .int .i64 V6) (us := [.string (bs (Ck.cut b 24 28))]) rfl rfl rfl rfl rfl (by kernel_rfl) (fun w hw => t6 w) ⟨⟨[1], by decide, rfl⟩, ?_⟩
              refine WA.take (idx := [1]) 27 rfl (by kernel_rfl) (by kernel_rfl) (by kernel_rfl) rfl ⟨by decide, rfl⟩ (by first | exact Yld.convInt rfl rfl rfl rfl u0 | exact Yld.convInt rfl rfl rfl rfl u1 | exact Yld.convInt rfl rfl rfl rfl u2 | exact Yld.convInt rfl rfl rfl rfl u3 | exact Yld.convInt rfl rfl rfl rfl u4 | exact Yld.convInt rfl rfl rfl rfl u5 | exact Yld.convInt rfl rfl rfl rfl u6 | exact Yld.convInt rfl rfl rfl rfl nrmQ) ?_
              refine WA.take (idx := [1]) 28 rfl (by kernel_rfl) (by kernel_rfl) (by kernel_rfl) rfl ⟨by decide, rfl⟩ (Yld.build (cells := #[.int .u32 v0, .int .u32 v1, .int .u32 v2, .int .u32 v3, .int .u32 v4, .int .u32 v5, .int .u32 v6, .int .u16 0, .int .u16 0, .int .u16 0, .int .u16 0, .string { data := #[] }, .int .i64 0, .int .i64 0]) rfl rfl (by kernel_rfl)) ?_
              refine WA.one 30 (by kernel_rfl) rfl rfl ?_
              first | refine StepTo.storeA 0 rfl rfl rfl rfl rfl rfl rfl rfl overQ setQ ⟨⟨[1], by decide, rfl⟩, ?_⟩ | refine StepTo.store1 0 rfl rfl rfl rfl rfl rfl rfl overQ setQ ⟨⟨[1], by decide, rfl⟩, ?_⟩
              refine WA.done (by kernel_rfl) ?_
              refine WQ.thenN ?_
              exact WQ.met _ _ [0, 1] (by repeat (first | exact Sub.nil | refine Sub.cons rfl ?_ | refine Sub.consE rfl (int_eq (by omega)) ?_)) ⟨by decide, rfl⟩ ⟨_, rfl, rfl⟩
          · first | refine StepTo.allocA rfl rfl rfl rfl (fun _ => ⟨⟨[1], by decide, rfl⟩, ?_⟩) | refine StepTo.alloc1 rfl rfl rfl rfl rfl (fun _ => ⟨⟨[1], by decide, rfl⟩, ?_⟩)
            refine WA.one 14 (by kernel_rfl) rfl rfl ?_
            refine StepTo.callV (v := .int .i64 V3) (us := [.string (bs (Ck.cut b 12 16))]) rfl rfl rfl rfl rfl (by kernel_rfl) (fun w hw => t3 w) ⟨⟨[1], by decide, rfl⟩, ?_⟩
            refine WA.take (idx := [1]) 15 rfl (by kernel_rfl) (by kernel_rfl) (by kernel_rfl) rfl ⟨by decide, rfl⟩ (by first | exact Yld.convInt rfl rfl rfl rfl u0 | exact Yld.convInt rfl rfl rfl rfl u1 | exact Yld.convInt rfl rfl rfl rfl u2 | exact Yld.convInt rfl rfl rfl rfl u3 | exact Yld.convInt rfl rfl rfl rfl u4 | exact Yld.convInt rfl rfl rfl rfl u5 | exact Yld.convInt rfl rfl rfl rfl u6 | exact Yld.convInt rfl rfl rfl rfl nrmQ) ?_
            refine WA.one 18 (by kernel_rfl) rfl rfl ?_
            refine StepTo.callV (v := .int .i64 V4) (us := [.string (bs (Ck.cut b 16 20))]) rfl rfl rfl rfl rfl (by kernel_rfl) (fun w hw => t4 w) ⟨⟨[1], by decide, rfl⟩, ?_⟩
            refine WA.take (idx := [1]) 19 rfl (by kernel_rfl) (by kernel_rfl) (by kernel_rfl) rfl ⟨by decide, rfl⟩ (by first | exact Yld.convInt rfl rfl rfl rfl u0 | exact Yld.convInt rfl rfl rfl rfl u1 | exact Yld.convInt rfl rfl rfl rfl u2 | exact Yld.convInt rfl rfl rfl rfl u3 | exact Yld.convInt rfl rfl rfl rfl u4 | exact Yld.convInt rfl rfl rfl rfl u5 | exact Yld.convInt rfl rfl rfl rfl u6 | exact Yld.convInt rfl rfl rfl rfl nrmQ) ?_
            refine WA.one 22 (by kernel_rfl) rfl rfl ?_
            refine StepTo.callV (v := .int .i64 V5) (us := [.string (bs (Ck.cut b 20 24))]) rfl rfl rfl rfl rfl (by kernel_rfl) (fun w hw => t5 w) ⟨⟨[1], by decide, rfl⟩, ?_⟩
            refine WA.take (idx := [1]) 23 rfl (by kernel_rfl) (by kernel_rfl) (by kernel_rfl) rfl ⟨by decide, rfl⟩ (by first | exact Yld.convInt rfl rfl rfl rfl u0 | exact Yld.convInt rfl rfl rfl rfl u1 | exact Yld.convInt rfl rfl rfl rfl u2 | exact Yld.convInt rfl rfl rfl rfl u3 | exact Yld.convInt rfl rfl rfl rfl u4 | exact Yld.convInt rfl rfl rfl rfl u5 | exact Yld.convInt rfl rfl rfl rfl u6 | exact Yld.convInt rfl rfl rfl rfl nrmQ) ?_
            refine WA.one 26 (by kernel_rfl) rfl rfl ?_
            refine StepTo.callV (v := .int .i64 V6) (us := [.string (bs (Ck.cut b 24 28))]) rfl rfl rfl rfl rfl (by kernel_rfl) (fun w hw => t6 w) ⟨⟨[1], by decide, rfl⟩, ?_⟩
            refine WA.take (idx := [1]) 27 rfl (by kernel_rfl) (by kernel_rfl) (by kernel_rfl) rfl ⟨by decide, rfl⟩ (by first | exact Yld.convInt rfl rfl rfl rfl u0 | exact Yld.convInt rfl rfl rfl rfl u1 | exact Yld.convInt rfl rfl rfl rfl u2 | exact Yld.convInt rfl rfl rfl rfl u3 | exact Yld.convInt rfl rfl rfl rfl u4 | exact Yld.convInt rfl rfl rfl rfl u5 | exact Yld.convInt rfl rfl rfl rfl u6 | exact Yld.convInt rfl rfl rfl rfl nrmQ) ?_
            refine WA.take (idx := [1]) 28 rfl (by kernel_rfl) (by kernel_rfl) (by kernel_rfl) rfl ⟨by decide, rfl⟩ (Yld.build (cells := #[.int .u32 v0, .int .u32 v1, .int .u32 v2, .int .u32 v3, .int .u32 v4, .int .u32 v5, .int .u32 v6, .int .u16 0, .int .u16 0, .int .u16 0, .int .u16 0, .string { data := #[] }, .int .i64 0, .int .i64 0]) rfl rfl (by kernel_rfl)) ?_
            refine WA.one 30 (by kernel_rfl) rfl rfl ?_
            first | refine StepTo.storeA 0 rfl rfl rfl rfl rfl rfl rfl rfl overQ setQ ⟨⟨[1], by decide, rfl⟩, ?_⟩ | refine StepTo.store1 0 rfl rfl rfl rfl rfl rfl rfl overQ setQ ⟨⟨[1], by decide, rfl⟩, ?_⟩
            refine WA.done (by kernel_rfl) ?_
            refine WQ.thenN ?_
            exact WQ.met _ _ [0, 1] (by repeat (first | exact Sub.nil | refine Sub.cons rfl ?_ | refine Sub.consE rfl (int_eq (by omega)) ?_)) ⟨by decide, rfl⟩ ⟨_, rfl, rfl⟩
        · first | refine StepTo.allocA rfl rfl rfl rfl (fun _ => ⟨⟨[1], by decide, rfl⟩, ?_⟩) | refine StepTo.alloc1 rfl rfl rfl rfl rfl (fun _ => ⟨⟨[1], by decide, rfl⟩, ?_⟩)
          refine WA.one 10 (by kernel_rfl) rfl rfl ?_
          refine StepTo.callV (v := .int .i64 V2) (us := [.string (bs (Ck.cut b 8 12))]) rfl rfl rfl rfl rfl (by kernel_rfl) (fun w hw => t2 w) ⟨⟨[1], by decide, rfl⟩, ?_⟩
          refine WA.take (idx := [1]) 11 rfl (by kernel_rfl) (by kernel_rfl) (by kernel_rfl) rfl ⟨by decide, rfl⟩ (by first | exact Yld.convInt rfl rfl rfl rfl u0 | exact Yld.convInt rfl rfl rfl rfl u1 | exact Yld.convInt rfl rfl rfl rfl u2 | exact Yld.convInt rfl rfl rfl rfl u3 | exact Yld.convInt rfl rfl rfl rfl u4 | exact Yld.convInt rfl rfl rfl rfl u5 | exact Yld.convInt rfl rfl rfl rfl u6 | exact Yld.convInt rfl rfl rfl rfl nrmQ) ?_
          refine WA.one 14 (by kernel_rfl) rfl rfl ?_
          refine StepTo.callV (v := .int .i64 V3) (us := [.string (bs (Ck.cut b 12 16))]) rfl rfl rfl rfl rfl (by kernel_rfl) (fun w hw => t3 w) ⟨⟨[1], by decide, rfl⟩, ?_⟩
          refine WA.take (idx := [1]) 15 rfl (by kernel_rfl) (by kernel_rfl) (by kernel_rfl) rfl ⟨by decide, rfl⟩ (by first | exact Yld.convInt rfl rfl rfl rfl u0 | exact Yld.convInt rfl rfl rfl rfl u1 | exact Yld.convInt rfl rfl rfl rfl u2 | exact Yld.convInt rfl rfl rfl rfl u3 | exact Yld.convInt rfl rfl rfl rfl u4 | exact Yld.convInt rfl rfl rfl rfl u5 | exact Yld.convInt rfl rfl rfl rfl u6 | exact Yld.convInt rfl rfl rfl rfl nrmQ) ?_
          refine WA.one 18 (by kernel_rfl) rfl rfl ?_
          refine StepTo.callV (v := .int .i64 V4) (us := [.string (bs (Ck.cut b 16 20))]) rfl rfl rfl rfl rfl (by kernel_rfl) (fun w hw => t4 w) ⟨⟨[1], by decide, rfl⟩, ?_⟩
          refine WA.take (idx := [1]) 19 rfl (by kernel_rfl) (by kernel_rfl) (by kernel_rfl) rfl ⟨by decide, rfl⟩ (by first | exact Yld.convInt rfl rfl rfl rfl u0 | exact Yld.convInt rfl rfl rfl rfl u1 | exact Yld.convInt rfl rfl rfl rfl u2 | exact Yld.convInt rfl rfl rfl rfl u3 | exact Yld.convInt rfl rfl rfl rfl u4 | exact Yld.convInt rfl rfl rfl rfl u5 | exact Yld.convInt rfl rfl rfl rfl u6 | exact Yld.convInt rfl rfl rfl rfl nrmQ) ?_
          refine WA.one 22 (by kernel_rfl) rfl rfl ?_
          refine StepTo.callV (v := .int .i64 V5) (us := [.string (bs (Ck.cut b 20 24))]) rfl rfl rfl rfl rfl (by kernel_rfl) (fun w hw => t5 w) ⟨⟨[1], by decide, rfl⟩, ?_⟩
          refine WA.take (idx := [1]) 23 rfl (by kernel_rfl) (by kernel_rfl) (by kernel_rfl) rfl ⟨by decide, rfl⟩ (by first | exact Yld.convInt rfl rfl rfl rfl u0 | exact Yld.convInt rfl rfl rfl rfl u1 | exact Yld.convInt rfl rfl rfl rfl u2 | exact Yld.convInt rfl rfl rfl rfl u3 | exact Yld.convInt rfl rfl rfl rfl u4 | exact Yld.convInt rfl rfl rfl rfl u5 | exact Yld.convInt rfl rfl rfl rfl u6 | exact Yld.convInt rfl rfl rfl rfl nrmQ) ?_
          refine WA.one 26 (by kernel_rfl) rfl rfl ?_
          refine StepTo.callV (v := .int .i64 V6) (us := [.string (bs (Ck.cut b 24 28))]) rfl rfl rfl rfl rfl (by kernel_rfl) (fun w hw => t6 w) ⟨⟨[1], by decide, rfl⟩, ?_⟩
          refine WA.take (idx := [1]) 27 rfl (by kernel_rfl) (by kernel_rfl) (by kernel_rfl) rfl ⟨by decide, rfl⟩ (by first | exact Yld.convInt rfl rfl rfl rfl u0 | exact Yld.convInt rfl rfl rfl rfl u1 | exact Yld.convInt rfl rfl rfl rfl u2 | exact Yld.convInt rfl rfl rfl rfl u3 | exact Yld.convInt rfl rfl rfl rfl u4 | exact Yld.convInt rfl rfl rfl rfl u5 | exact Yld.convInt rfl rfl rfl rfl u6 | exact Yld.convInt rfl rfl rfl rfl nrmQ) ?_
          refine WA.take (idx := [1]) 28 rfl (by kernel_rfl) (by kernel_rfl) (by kernel_rfl) rfl ⟨by decide, rfl⟩ (Yld.build (cells := #[.int .u32 v0, .int .u32 v1, .int .u32 v2, .int .u32 v3, .int .u32 v4, .int .u32 v5, .int .u32 v6, .int .u16 0, .int .u16 0, .int .u16 0, .int .u16 0, .string { data := #[] }, .int .i64 0, .int .i64 0]) rfl rfl (by kernel_rfl)) ?_
          refine WA.one 30 (by kernel_rfl) rfl rfl ?_
          first | refine StepTo.storeA 0 rfl rfl rfl rfl rfl rfl rfl rfl overQ setQ ⟨⟨[1], by decide, rfl⟩, ?_⟩ | refine StepTo.store1 0 rfl rfl rfl rfl rfl rfl rfl overQ setQ ⟨⟨[1], by decide, rfl⟩, ?_⟩
          refine WA.done (by kernel_rfl) ?_
          refine WQ.thenN ?_
          exact WQ.met _ _ [0, 1] (by repeat (first | exact Sub.nil | refine Sub.cons rfl ?_ | refine Sub.consE rfl (int_eq (by omega)) ?_)) ⟨by decide, rfl⟩ ⟨_, rfl, rfl⟩
      · first | refine StepTo.allocA rfl rfl rfl rfl (fun _ => ⟨⟨[1], by decide, rfl⟩, ?_⟩) | refine StepTo.alloc1 rfl rfl rfl rfl rfl (fun _ => ⟨⟨[1], by decide, rfl⟩, ?_⟩)
        refine WA.one 6 (by kernel_rfl) rfl rfl ?_
        refine StepTo.callV (v := .int .i64 V1) (us := [.string (bs (Ck.cut b 4 8))]) rfl rfl rfl rfl rfl (by kernel_rfl) (fun w hw => t1 w) ⟨⟨[1], by decide, rfl⟩, ?_⟩
        refine WA.take (idx := [1]) 7 rfl (by kernel_rfl) (by kernel_rfl) (by kernel_rfl) rfl ⟨by decide, rfl⟩ (by first | exact Yld.convInt rfl rfl rfl rfl u0 | exact Yld.convInt rfl rfl rfl rfl u1 | exact Yld.convInt rfl rfl rfl rfl u2 | exact Yld.convInt rfl rfl rfl rfl u3 | exact Yld.convInt rfl rfl rfl rfl u4 | exact Yld.convInt rfl rfl rfl rfl u5 | exact Yld.convInt rfl rfl rfl rfl u6 | exact Yld.convInt rfl rfl rfl rfl nrmQ) ?_
        refine WA.one 10 (by kernel_rfl) rfl rfl ?_
        refine StepTo.callV (v := .int .i64 V2) (us := [.string (bs (Ck.cut b 8 12))]) rfl rfl rfl rfl rfl (by kernel_rfl) (fun w hw => t2 w) ⟨⟨[1], by decide, rfl⟩, ?_⟩
        refine WA.take (idx := [1]) 11 rfl (by kernel_rfl) (by kernel_rfl) (by kernel_rfl) rfl ⟨by decide, rfl⟩ (by first | exact Yld.convInt rfl rfl rfl rfl u0 | exact Yld.convInt rfl rfl rfl rfl u1 | exact Yld.convInt rfl rfl rfl rfl u2 | exact Yld.convInt rfl rfl rfl rfl u3 | exact Yld.convInt rfl rfl rfl rfl u4 | exact Yld.convInt rfl rfl rfl rfl u5 | exact Yld.convInt rfl rfl rfl rfl u6 | exact Yld.convInt rfl rfl rfl rfl nrmQ) ?_
        refine WA.one 14 (by kernel_rfl) rfl rfl ?_
        refine StepTo.callV (v := .int .i64 V3) (us := [.string (bs (Ck.cut b 12 16))]) rfl rfl rfl rfl rfl (by kernel_rfl) (fun w hw => t3 w) ⟨⟨[1], by decide, rfl⟩, ?_⟩
        refine WA.take (idx := [1]) 15 rfl (by kernel_rfl) (by kernel_rfl) (by kernel_rfl) rfl ⟨by decide, rfl⟩ (by first | exact Yld.convInt rfl rfl rfl rfl u0 | exact Yld.convInt rfl rfl rfl rfl u1 | exact Yld.convInt rfl rfl rfl rfl u2 | exact Yld.convInt rfl rfl rfl rfl u3 | exact Yld.convInt rfl rfl rfl rfl u4 | exact Yld.convInt rfl rfl rfl rfl u5 | exact Yld.convInt rfl rfl rfl rfl u6 | exact Yld.convInt rfl rfl rfl rfl nrmQ) ?_
        refine WA.one 18 (by kernel_rfl) rfl rfl ?_
        refine StepTo.callV (v := .int .i64 V4) (us := [.string (bs (Ck.cut b 16 20))]) rfl rfl rfl rfl rfl (by kernel_rfl) (fun w hw => t4 w) ⟨⟨[1], by decide, rfl⟩, ?_⟩
        refine WA.take (idx := [1]) 19 rfl (by kernel_rfl) (by kernel_rfl) (by kernel_rfl) rfl ⟨by decide, rfl⟩ (by first | exact Yld.convInt rfl rfl rfl rfl u0 | exact Yld.convInt rfl rfl rfl rfl u1 | exact Yld.convInt rfl rfl rfl rfl u2 | exact Yld.convInt rfl rfl rfl rfl u3 | exact Yld.convInt rfl rfl rfl rfl u4 | exact Yld.convInt rfl rfl rfl rfl u5 | exact Yld.convInt rfl rfl rfl rfl u6 | exact Yld.convInt rfl rfl rfl rfl nrmQ) ?_
        refine WA.one 22 (by kernel_rfl) rfl rfl ?_
        refine StepTo.callV (v := .int .i64 V5) (us := [.string (bs (Ck.cut b 20 24))]) rfl rfl rfl rfl rfl (by kernel_rfl) (fun w hw => t5 w) ⟨⟨[1], by decide, rfl⟩, ?_⟩
        refine WA.take (idx := [1]) 23 rfl (by kernel_rfl) (by kernel_rfl) (by kernel_rfl) rfl ⟨by decide, rfl⟩ (by first | exact Yld.convInt rfl rfl rfl rfl u0 | exact Yld.convInt rfl rfl rfl rfl u1 | exact Yld.convInt rfl rfl rfl rfl u2 | exact Yld.convInt rfl rfl rfl rfl u3 | exact Yld.convInt rfl rfl rfl rfl u4 | exact Yld.convInt rfl rfl rfl rfl u5 | exact Yld.convInt rfl rfl rfl rfl u6 | exact Yld.convInt rfl rfl rfl rfl nrmQ) ?_
        refine WA.one 26 (by kernel_rfl) rfl rfl ?_
        refine StepTo.callV (v := .int .i64 V6) (us := [.string (bs (Ck.cut b 24 28))]) rfl rfl rfl rfl rfl (by kernel_rfl) (fun w hw => t6 w) ⟨⟨[1], by decide, rfl⟩, ?_⟩
        refine WA.take (idx := [1]) 27 rfl (by kernel_rfl) (by kernel_rfl) (by kernel_rfl) rfl ⟨by decide, rfl⟩ (by first | exact Yld.convInt rfl rfl rfl rfl u0 | exact Yld.convInt rfl rfl rfl rfl u1 | exact Yld.convInt rfl rfl rfl rfl u2 | exact Yld.convInt rfl rfl rfl rfl u3 | exact Yld.convInt rfl rfl rfl rfl u4 | exact Yld.convInt rfl rfl rfl rfl u5 | exact Yld.convInt rfl rfl rfl rfl u6 | exact Yld.convInt rfl rfl rfl rfl nrmQ) ?_
        refine WA.take (idx := [1]) 28 rfl (by kernel_rfl) (by kernel_rfl) (by kernel_rfl) rfl ⟨by decide, rfl⟩ (Yld.build (cells := #[.int .u32 v0, .int .u32 v1, .int .u32 v2, .int .u32 v3, .int .u32 v4, .int .u32 v5, .int .u32 v6, .int .u16 0, .int .u16 0, .int .u16 0, .int .u16 0, .string { data := #[] }, .int .i64 0, .int .i64 0]) rfl rfl (by kernel_rfl)) ?_
        refine WA.one 30 (by kernel_rfl) rfl rfl ?_
        first | refine StepTo.storeA 0 rfl rfl rfl rfl rfl rfl rfl rfl overQ setQ ⟨⟨[1], by decide, rfl⟩, ?_⟩ | refine StepTo.store1 0 rfl rfl rfl rfl rfl rfl rfl overQ setQ ⟨⟨[1], by decide, rfl⟩, ?_⟩
        refine WA.done (by kernel_rfl) ?_
        refine WQ.thenN ?_
        exact WQ.met _ _ [0, 1] (by repeat (first | exact Sub.nil | refine Sub.cons rfl ?_ | refine Sub.consE rfl (int_eq (by omega)) ?_)) ⟨by decide, rfl⟩ ⟨_, rfl, rfl⟩
    · first | refine StepTo.allocA rfl rfl rfl rfl (fun _ => ⟨⟨[1], by decide, rfl⟩, ?_⟩) | refine StepTo.alloc1 rfl rfl rfl rfl rfl (fun _ => ⟨⟨[1], by decide, rfl⟩, ?_⟩)
      refine WA.one 2 (by kernel_rfl) rfl rfl ?_
      refine StepTo.callV (v := .int .i64 V0) (us := [.string (bs (Ck.cut b 0 4))]) rfl rfl rfl rfl rfl (by kernel_rfl) (fun w hw => t0 w) ⟨⟨[1], by decide, rfl⟩, ?_⟩
      refine WA.take (idx := [1]) 3 rfl (by kernel_rfl) (by kernel_rfl) (by kernel_rfl) rfl ⟨by decide, rfl⟩ (by first | exact Yld.convInt rfl rfl rfl rfl u0 | exact Yld.convInt rfl rfl rfl rfl u1 | exact Yld.convInt rfl rfl rfl rfl u2 | exact Yld.convInt rfl rfl rfl rfl u3 | exact Yld.convInt rfl rfl rfl rfl u4 | exact Yld.convInt rfl rfl rfl rfl u5 | exact Yld.convInt rfl rfl rfl rfl u6 | exact Yld.convInt rfl rfl rfl rfl nrmQ) ?_
      refine WA.one 6 (by kernel_rfl) rfl rfl ?_
      refine StepTo.callV (v := .int .i64 V1) (us := [.string (bs (Ck.cut b 4 8))]) rfl rfl rfl rfl rfl (by kernel_rfl) (fun w hw => t1 w) ⟨⟨[1], by decide, rfl⟩, ?_⟩
      refine WA.take (idx := [1]) 7 rfl (by kernel_rfl) (by kernel_rfl) (by kernel_rfl) rfl ⟨by decide, rfl⟩ (by first | exact Yld.convInt rfl rfl rfl rfl u0 | exact Yld.convInt rfl rfl rfl rfl u1 | exact Yld.convInt rfl rfl rfl rfl u2 | exact Yld.convInt rfl rfl rfl rfl u3 | exact Yld.convInt rfl rfl rfl rfl u4 | exact Yld.convInt rfl rfl rfl rfl u5 | exact Yld.convInt rfl rfl rfl rfl u6 | exact Yld.convInt rfl rfl rfl rfl nrmQ) ?_
      refine WA.one 10 (by kernel_rfl) rfl rfl ?_
      refine StepTo.callV (v := .int .i64 V2) (us := [.string (bs (Ck.cut b 8 12))]) rfl rfl rfl rfl rfl (by kernel_rfl) (fun w hw => t2 w) ⟨⟨[1], by decide, rfl⟩, ?_⟩
      refine WA.take (idx := [1]) 11 rfl (by kernel_rfl) (by kernel_rfl) (by kernel_rfl) rfl ⟨by decide, rfl⟩ (by first | exact Yld.convInt rfl rfl rfl rfl u0 | exact Yld.convInt rfl rfl rfl rfl u1 | exact Yld.convInt rfl rfl rfl rfl u2 | exact Yld.convInt rfl rfl rfl rfl u3 | exact Yld.convInt rfl rfl rfl rfl u4 | exact Yld.convInt rfl rfl rfl rfl u5 | exact Yld.convInt rfl rfl rfl rfl u6 | exact Yld.convInt rfl rfl rfl rfl nrmQ) ?_
      refine WA.one 14 (by kernel_rfl) rfl rfl ?_
      refine StepTo.callV (v := .int .i64 V3) (us := [.string (bs (Ck.cut b 12 16))]) rfl rfl rfl rfl rfl (by kernel_rfl) (fun w hw => t3 w) ⟨⟨[1], by decide, rfl⟩, ?_⟩
      refine WA.take (idx := [1]) 15 rfl (by kernel_rfl) (by kernel_rfl) (by kernel_rfl) rfl ⟨by decide, rfl⟩ (by first | exact Yld.convInt rfl rfl rfl rfl u0 | exact Yld.convInt rfl rfl rfl rfl u1 | exact Yld.convInt rfl rfl rfl rfl u2 | exact Yld.convInt rfl rfl rfl rfl u3 | exact Yld.convInt rfl rfl rfl rfl u4 | exact Yld.convInt rfl rfl rfl rfl u5 | exact Yld.convInt rfl rfl rfl rfl u6 | exact Yld.convInt rfl rfl rfl rfl nrmQ) ?_
      refine WA.one 18 (by kernel_rfl) rfl rfl ?_
      refine StepTo.callV (v := .int .i64 V4) (us := [.string (bs (Ck.cut b 16 20))]) rfl rfl rfl rfl rfl (by kernel_rfl) (fun w hw => t4 w) ⟨⟨[1], by decide, rfl⟩, ?_⟩
      refine WA.take (idx := [1]) 19 rfl (by kernel_rfl) (by kernel_rfl) (by kernel_rfl) rfl ⟨by decide, rfl⟩ (by first | exact Yld.convInt rfl rfl rfl rfl u0 | exact Yld.convInt rfl rfl rfl rfl u1 | exact Yld.convInt rfl rfl rfl rfl u2 | exact Yld.convInt rfl rfl rfl rfl u3 | exact Yld.convInt rfl rfl rfl rfl u4 | exact Yld.convInt rfl rfl rfl rfl u5 | exact Yld.convInt rfl rfl rfl rfl u6 | exact Yld.convInt rfl rfl rfl rfl nrmQ) ?_
      refine WA.one 22 (by kernel_rfl) rfl rfl ?_
      refine StepTo.callV (v := .int .i64 V5) (us := [.string (bs (Ck.cut b 20 24))]) rfl rfl rfl rfl rfl (by kernel_rfl) (fun w hw => t5 w) ⟨⟨[1], by decide, rfl⟩, ?_⟩
      refine WA.take (idx := [1]) 23 rfl (by kernel_rfl) (by kernel_rfl) (by kernel_rfl) rfl ⟨by decide, rfl⟩ (by first | exact Yld.convInt rfl rfl rfl rfl u0 | exact Yld.convInt rfl rfl rfl rfl u1 | exact Yld.convInt rfl rfl rfl rfl u2 | exact Yld.convInt rfl rfl rfl rfl u3 | exact Yld.convInt rfl rfl rfl rfl u4 | exact Yld.convInt rfl rfl rfl rfl u5 | exact Yld.convInt rfl rfl rfl rfl u6 | exact Yld.convInt rfl rfl rfl rfl nrmQ) ?_
      refine WA.one 26 (by kernel_rfl) rfl rfl ?_
      refine StepTo.callV (v := .int .i64 V6) (us := [.string (bs (Ck.cut b 24 28))]) rfl rfl rfl rfl rfl (by kernel_rfl) (fun w hw => t6 w) ⟨⟨[1], by decide, rfl⟩, ?_⟩
      refine WA.take (idx := [1]) 27 rfl (by kernel_rfl) (by kernel_rfl) (by kernel_rfl) rfl ⟨by decide, rfl⟩ (by first | exact Yld.convInt rfl rfl rfl rfl u0 | exact Yld.convInt rfl rfl rfl rfl u1 | exact Yld.convInt rfl rfl rfl rfl u2 | exact Yld.convInt rfl rfl rfl rfl u3 | exact Yld.convInt rfl rfl rfl rfl u4 | exact Yld.convInt rfl rfl rfl rfl u5 | exact Yld.convInt rfl rfl rfl rfl u6 | exact Yld.convInt rfl rfl rfl rfl nrmQ) ?_
      refine WA.take (idx := [1]) 28 rfl (by kernel_rfl) (by kernel_rfl) (by kernel_rfl) rfl ⟨by decide, rfl⟩ (Yld.build (cells := #[.int .u32 v0, .int .u32 v1, .int .u32 v2, .int .u32 v3, .int .u32 v4, .int .u32 v5, .int .u32 v6, .int .u16 0, .int .u16 0, .int .u16 0, .int .u16 0, .string { data := #[] }, .int .i64 0, .int .i64 0]) rfl rfl (by kernel_rfl)) ?_
      refine WA.one 30 (by kernel_rfl) rfl rfl ?_
      first | refine StepTo.storeA 0 rfl rfl rfl rfl rfl rfl rfl rfl overQ setQ ⟨⟨[1], by decide, rfl⟩, ?_⟩ | refine StepTo.store1 0 rfl rfl rfl rfl rfl rfl rfl overQ setQ ⟨⟨[1], by decide, rfl⟩, ?_⟩
      refine WA.done (by kernel_rfl) ?_
      refine WQ.thenN ?_
      exact WQ.met _ _ [0, 1] (by repeat (first | exact Sub.nil | refine Sub.cons rfl ?_ | refine Sub.consE rfl (int_eq (by omega)) ?_)) ⟨by decide, rfl⟩ ⟨_, rfl, rfl⟩
    rintro τ H ⟨bS, rfl, rfl⟩
    cases hr : Ck.right ⟨v0, v1, v2, v3, v4, v5, v6, v7, v8, v9, v10, b.drop 53, v11, v12⟩ with
    | false =>
      rw [if_pos (.inr rfl)]
      rw [hr] at hrq
      repeat' (first
    | refine goS ?_
    | ((with_reducible refine WL.isN_bin ?_); first | refine WL.yld rfl binQ ?_)
    | ((with_reducible refine WL.isN_load ?_); first | refine WL.yld rfl loadQ ?_)
    | ((with_reducible refine WL.isN_conv ?_); first | refine WL.yld rfl (Yld.convInt rfl rfl rfl rfl u7) ?_ | refine WL.yld rfl (Yld.convInt rfl rfl rfl rfl u8) ?_ | refine WL.yld rfl (Yld.convInt rfl rfl rfl rfl u9) ?_ | refine WL.yld rfl (Yld.convInt rfl rfl rfl rfl u10) ?_ | refine WL.yld rfl convQ ?_)
    | ((with_reducible refine WL.isN_build ?_); first | refine WL.yld rfl buildQ ?_)
    | ((with_reducible refine WL.isN_call ?_); first | refine WL.step rfl (StepTo.callV (v := .int .i64 V7) (us := [.string (bs (Ck.cut b 28 30))]) rfl rfl rfl rfl rfl (by kernel_rfl) (fun w hw => t7 w) ?_) | refine WL.step rfl (StepTo.callV (v := .int .i64 V8) (us := [.string (bs (Ck.cut b 30 32))]) rfl rfl rfl rfl rfl (by kernel_rfl) (fun w hw => t8 w) ?_) | refine WL.step rfl (StepTo.callV (v := .int .i64 V9) (us := [.string (bs (Ck.cut b 32 34))]) rfl rfl rfl rfl rfl (by kernel_rfl) (fun w hw => t9 w) ?_) | refine WL.step rfl (StepTo.callV (v := .int .i64 V10) (us := [.string (bs (Ck.cut b 34 36))]) rfl rfl rfl rfl rfl (by kernel_rfl) (fun w hw => t10 w) ?_) | refine WL.step rfl (StepTo.callV (v := .int .i64 v11) (us := [.string (bs (Ck.cut b 36 44))]) rfl rfl rfl rfl rfl (by kernel_rfl) (fun w hw => t11 w) ?_) | refine WL.step rfl (StepTo.callV (v := .int .i64 v12) (us := [.string (bs (Ck.cut b 44 52))]) rfl rfl rfl rfl rfl (by kernel_rfl) (fun w hw => t12 w) ?_) | refine WL.step rfl (StepTo.callV (v := .bool false) (us := [.agg (Ck.St.cs ⟨v0, v1, v2, v3, v4, v5, v6, v7, v8, v9, v10, b.drop 53, v11, v12⟩).toArray]) rfl rfl rfl rfl rfl (by kernel_rfl) (fun w hw => hrq w) ?_) | refine WL.yld rfl lenQ ?_)
    | ((with_reducible refine WL.isN_alloc ?_); first | refine WL.step rfl (StepTo.allocA rfl rfl rfl rfl (fun _ => ?_)) | refine WL.step rfl (StepTo.alloc1 rfl rfl rfl rfl rfl (fun _ => ?_)))
    | ((with_reducible refine WL.isN_store ?_); first | refine WL.step rfl (StepTo.st1 rfl rfl rfl rfl rfl rfl ?_) | refine WL.step rfl (StepTo.stA rfl rfl rfl rfl rfl rfl rfl ?_) | refine WL.step rfl (StepTo.stR rfl rfl rfl rfl rfl rfl rfl ?_))
    | refine WL.yld rfl (Yld.cutS (lo := 28) (hi := 30) rfl rfl rfl rfl rfl rfl (by omega) (by omega) (by omega)) ?_
    | refine WL.yld rfl (Yld.cutS (lo := 30) (hi := 32) rfl rfl rfl rfl rfl rfl (by omega) (by omega) (by omega)) ?_
    | refine WL.yld rfl (Yld.cutS (lo := 32) (hi := 34) rfl rfl rfl rfl rfl rfl (by omega) (by omega) (by omega)) ?_
    | refine WL.yld rfl (Yld.cutS (lo := 34) (hi := 36) rfl rfl rfl rfl rfl rfl (by omega) (by omega) (by omega)) ?_
    | refine WL.yld rfl (Yld.cutS (lo := 36) (hi := 44) rfl rfl rfl rfl rfl rfl (by omega) (by omega) (by omega)) ?_
    | refine WL.yld rfl (Yld.cutS (lo := 44) (hi := 52) rfl rfl rfl rfl rfl rfl (by omega) (by omega) (by omega)) ?_
    | refine WL.yld rfl (Yld.cutLoS (lo := 53) rfl rfl rfl rfl rfl (by omega)) ?_
    | with_reducible refine WC.block ?_
    | (refine WC.cond rfl (fun hc => ?_) (fun hc => ?_) <;> (try first | (with_reducible replace hc := of_decide_eq_true hc) | (with_reducible replace hc := of_decide_eq_false hc) | (with_reducible replace hc := eqT hc) | (with_reducible replace hc := eqF hc) | (with_reducible replace hc := neT hc) | (with_reducible replace hc := neF hc) | (with_reducible replace hc := noT hc) | (with_reducible replace hc := noF hc)) <;> (try (exfalso; omega))))
      exact WQ.body (Reads.two rfl (Res1.cellA rfl rfl rfl rfl (AggAt.box 1 rfl rfl)) (Res1.tmp rfl)) fun w' hw' => ⟨rfl, hw'.ext.below⟩
    | true =>
      have hbq := hbq hr
      have hbp := hbp hr
      rw [hr] at hrq
      generalize Ck.bytes ⟨v0, v1, v2, v3, v4, v5, v6, v7, v8, v9, v10, b.drop 53, v11, v12⟩ = B at *
      have hneB : Value.bool (!(B == b)) = .bool (!decide (z = (b.drop 53).length)) := by
        by_cases h : B = b
        · rw [decide_eq_true (hbp.1 h), beq_iff_eq.2 h]
        · rw [decide_eq_false (fun e => h (hbp.2 e))]
          have : (B == b) = false := by simpa using h
          rw [this]
      by_cases hzl : z = (b.drop 53).length
      · rw [decide_eq_true hzl] at hneB
        rw [if_neg (by simp [hzl])]
        repeat' (first
    | refine goS ?_
    | ((with_reducible refine WL.isN_bin ?_); first | refine WL.yld rfl ((Yld.neS rfl rfl rfl).as hneB) ?_ | refine WL.yld rfl binQ ?_)
    | ((with_reducible refine WL.isN_load ?_); first | refine WL.yld rfl loadQ ?_)
    | ((with_reducible refine WL.isN_conv ?_); first | refine WL.yld rfl (Yld.convInt rfl rfl rfl rfl u7) ?_ | refine WL.yld rfl (Yld.convInt rfl rfl rfl rfl u8) ?_ | refine WL.yld rfl (Yld.convInt rfl rfl rfl rfl u9) ?_ | refine WL.yld rfl (Yld.convInt rfl rfl rfl rfl u10) ?_ | refine WL.yld rfl convQ ?_)
    | ((with_reducible refine WL.isN_build ?_); first | refine WL.yld rfl buildQ ?_)
    | ((with_reducible refine WL.isN_call ?_); first | refine WL.step rfl (StepTo.callV (v := .int .i64 V7) (us := [.string (bs (Ck.cut b 28 30))]) rfl rfl rfl rfl rfl (by kernel_rfl) (fun w hw => t7 w) ?_) | refine WL.step rfl (StepTo.callV (v := .int .i64 V8) (us := [.string (bs (Ck.cut b 30 32))]) rfl rfl rfl rfl rfl (by kernel_rfl) (fun w hw => t8 w) ?_) | refine WL.step rfl (StepTo.callV (v := .int .i64 V9) (us := [.string (bs (Ck.cut b 32 34))]) rfl rfl rfl rfl rfl (by kernel_rfl) (fun w hw => t9 w) ?_) | refine WL.step rfl (StepTo.callV (v := .int .i64 V10) (us := [.string (bs (Ck.cut b 34 36))]) rfl rfl rfl rfl rfl (by kernel_rfl) (fun w hw => t10 w) ?_) | refine WL.step rfl (StepTo.callV (v := .int .i64 v11) (us := [.string (bs (Ck.cut b 36 44))]) rfl rfl rfl rfl rfl (by kernel_rfl) (fun w hw => t11 w) ?_) | refine WL.step rfl (StepTo.callV (v := .int .i64 v12) (us := [.string (bs (Ck.cut b 44 52))]) rfl rfl rfl rfl rfl (by kernel_rfl) (fun w hw => t12 w) ?_) | refine WL.step rfl (StepTo.callV (v := .string (bs B)) (us := [.agg (Ck.St.cs ⟨v0, v1, v2, v3, v4, v5, v6, v7, v8, v9, v10, b.drop 53, v11, v12⟩).toArray]) rfl rfl rfl rfl rfl (by kernel_rfl) (fun w hw => hbq w) ?_) | refine WL.step rfl (StepTo.callV (v := .bool true) (us := [.agg (Ck.St.cs ⟨v0, v1, v2, v3, v4, v5, v6, v7, v8, v9, v10, b.drop 53, v11, v12⟩).toArray]) rfl rfl rfl rfl rfl (by kernel_rfl) (fun w hw => hrq w) ?_) | refine WL.yld rfl lenQ ?_)
    | ((with_reducible refine WL.isN_alloc ?_); first | refine WL.step rfl (StepTo.allocA rfl rfl rfl rfl (fun _ => ?_)) | refine WL.step rfl (StepTo.alloc1 rfl rfl rfl rfl rfl (fun _ => ?_)))
    | ((with_reducible refine WL.isN_store ?_); first | refine WL.step rfl (StepTo.st1 rfl rfl rfl rfl rfl rfl ?_) | refine WL.step rfl (StepTo.stA rfl rfl rfl rfl rfl rfl rfl ?_) | refine WL.step rfl (StepTo.stR rfl rfl rfl rfl rfl rfl rfl ?_))
    | refine WL.yld rfl (Yld.cutS (lo := 28) (hi := 30) rfl rfl rfl rfl rfl rfl (by omega) (by omega) (by omega)) ?_
    | refine WL.yld rfl (Yld.cutS (lo := 30) (hi := 32) rfl rfl rfl rfl rfl rfl (by omega) (by omega) (by omega)) ?_
    | refine WL.yld rfl (Yld.cutS (lo := 32) (hi := 34) rfl rfl rfl rfl rfl rfl (by omega) (by omega) (by omega)) ?_
    | refine WL.yld rfl (Yld.cutS (lo := 34) (hi := 36) rfl rfl rfl rfl rfl rfl (by omega) (by omega) (by omega)) ?_
    | refine WL.yld rfl (Yld.cutS (lo := 36) (hi := 44) rfl rfl rfl rfl rfl rfl (by omega) (by omega) (by omega)) ?_
    | refine WL.yld rfl (Yld.cutS (lo := 44) (hi := 52) rfl rfl rfl rfl rfl rfl (by omega) (by omega) (by omega)) ?_
    | refine WL.yld rfl (Yld.cutLoS (lo := 53) rfl rfl rfl rfl rfl (by omega)) ?_
    | with_reducible refine WC.block ?_
    | (refine WC.cond rfl (fun hc => ?_) (fun hc => ?_) <;> (try first | (with_reducible replace hc := of_decide_eq_true hc) | (with_reducible replace hc := of_decide_eq_false hc) | (with_reducible replace hc := eqT hc) | (with_reducible replace hc := eqF hc) | (with_reducible replace hc := neT hc) | (with_reducible replace hc := neF hc) | (with_reducible replace hc := noT hc) | (with_reducible replace hc := noF hc)) <;> (try (exfalso; omega))))
        exact WQ.body (Reads.two rfl (Res1.cellA rfl rfl rfl rfl (AggAt.box 1 rfl rfl)) (Res1.tmp rfl)) fun w' hw' => ⟨rfl, hw'.ext.below⟩
      · rw [decide_eq_false hzl] at hneB
        rw [if_pos (.inl hzl)]
        repeat' (first
    | refine goS ?_
    | ((with_reducible refine WL.isN_bin ?_); first | refine WL.yld rfl ((Yld.neS rfl rfl rfl).as hneB) ?_ | refine WL.yld rfl binQ ?_)
    | ((with_reducible refine WL.isN_load ?_); first | refine WL.yld rfl loadQ ?_)
    | ((with_reducible refine WL.isN_conv ?_); first | refine WL.yld rfl (Yld.convInt rfl rfl rfl rfl u7) ?_ | refine WL.yld rfl (Yld.convInt rfl rfl rfl rfl u8) ?_ | refine WL.yld rfl (Yld.convInt rfl rfl rfl rfl u9) ?_ | refine WL.yld rfl (Yld.convInt rfl rfl rfl rfl u10) ?_ | refine WL.yld rfl convQ ?_)
    | ((with_reducible refine WL.isN_build ?_); first | refine WL.yld rfl buildQ ?_)
    | ((with_reducible refine WL.isN_call ?_); first | refine WL.step rfl (StepTo.callV (v := .int .i64 V7) (us := [.string (bs (Ck.cut b 28 30))]) rfl rfl rfl rfl rfl (by kernel_rfl) (fun w hw => t7 w) ?_) | refine WL.step rfl (StepTo.callV (v := .int .i64 V8) (us := [.string (bs (Ck.cut b 30 32))]) rfl rfl rfl rfl rfl (by kernel_rfl) (fun w hw => t8 w) ?_) | refine WL.step rfl (StepTo.callV (v := .int .i64 V9) (us := [.string (bs (Ck.cut b 32 34))]) rfl rfl rfl rfl rfl (by kernel_rfl) (fun w hw => t9 w) ?_) | refine WL.step rfl (StepTo.callV (v := .int .i64 V10) (us := [.string (bs (Ck.cut b 34 36))]) rfl rfl rfl rfl rfl (by kernel_rfl) (fun w hw => t10 w) ?_) | refine WL.step rfl (StepTo.callV (v := .int .i64 v11) (us := [.string (bs (Ck.cut b 36 44))]) rfl rfl rfl rfl rfl (by kernel_rfl) (fun w hw => t11 w) ?_) | refine WL.step rfl (StepTo.callV (v := .int .i64 v12) (us := [.string (bs (Ck.cut b 44 52))]) rfl rfl rfl rfl rfl (by kernel_rfl) (fun w hw => t12 w) ?_) | refine WL.step rfl (StepTo.callV (v := .string (bs B)) (us := [.agg (Ck.St.cs ⟨v0, v1, v2, v3, v4, v5, v6, v7, v8, v9, v10, b.drop 53, v11, v12⟩).toArray]) rfl rfl rfl rfl rfl (by kernel_rfl) (fun w hw => hbq w) ?_) | refine WL.step rfl (StepTo.callV (v := .bool true) (us := [.agg (Ck.St.cs ⟨v0, v1, v2, v3, v4, v5, v6, v7, v8, v9, v10, b.drop 53, v11, v12⟩).toArray]) rfl rfl rfl rfl rfl (by kernel_rfl) (fun w hw => hrq w) ?_) | refine WL.yld rfl lenQ ?_)
    | ((with_reducible refine WL.isN_alloc ?_); first | refine WL.step rfl (StepTo.allocA rfl rfl rfl rfl (fun _ => ?_)) | refine WL.step rfl (StepTo.alloc1 rfl rfl rfl rfl rfl (fun _ => ?_)))
    | ((with_reducible refine WL.isN_store ?_); first | refine WL.step rfl (StepTo.st1 rfl rfl rfl rfl rfl rfl ?_) | refine WL.step rfl (StepTo.stA rfl rfl rfl rfl rfl rfl rfl ?_) | refine WL.step rfl (StepTo.stR rfl rfl rfl rfl rfl rfl rfl ?_))
    | refine WL.yld rfl (Yld.cutS (lo := 28) (hi := 30) rfl rfl rfl rfl rfl rfl (by omega) (by omega) (by omega)) ?_
    | refine WL.yld rfl (Yld.cutS (lo := 30) (hi := 32) rfl rfl rfl rfl rfl rfl (by omega) (by omega) (by omega)) ?_
    | refine WL.yld rfl (Yld.cutS (lo := 32) (hi := 34) rfl rfl rfl rfl rfl rfl (by omega) (by omega) (by omega)) ?_
    | refine WL.yld rfl (Yld.cutS (lo := 34) (hi := 36) rfl rfl rfl rfl rfl rfl (by omega) (by omega) (by omega)) ?_
    | refine WL.yld rfl (Yld.cutS (lo := 36) (hi := 44) rfl rfl rfl rfl rfl rfl (by omega) (by omega) (by omega)) ?_
    | refine WL.yld rfl (Yld.cutS (lo := 44) (hi := 52) rfl rfl rfl rfl rfl rfl (by omega) (by omega) (by omega)) ?_
    | refine WL.yld rfl (Yld.cutLoS (lo := 53) rfl rfl rfl rfl rfl (by omega)) ?_
    | with_reducible refine WC.block ?_
    | (refine WC.cond rfl (fun hc => ?_) (fun hc => ?_) <;> (try first | (with_reducible replace hc := of_decide_eq_true hc) | (with_reducible replace hc := of_decide_eq_false hc) | (with_reducible replace hc := eqT hc) | (with_reducible replace hc := eqF hc) | (with_reducible replace hc := neT hc) | (with_reducible replace hc := neF hc) | (with_reducible replace hc := noT hc) | (with_reducible replace hc := noF hc)) <;> (try (exfalso; omega))))
        exact WQ.body (Reads.two rfl (Res1.cellA rfl rfl rfl rfl (AggAt.box 1 rfl rfl)) (Res1.tmp rfl)) fun w' hw' => ⟨rfl, hw'.ext.below⟩
end Go.Proofs.Ytheilikelcgdmaa
