/- The digest of a text under a key, of the program. -/
import Derived.Test.YtheilikelcgdmaaHmA
namespace Go.Proofs.Ytheilikelcgdmaa
open Go.RowKit
set_option linter.unusedVariables false
set_option maxRecDepth 100000

set_option maxHeartbeats 4000000 in
theorem hm_q (k s : List UInt8) (hk : k.length ≤ 1073741824) (hs : s.length ≤ 1073741824) (w : World) : Calls Try.prog 28 #[.string (bs k), .string (bs s)] w
    fun e w' => e = .returned (.string (bs (Hm.sum k s))) ∧ Below w.heap.size w w' := by
  refine enterR (fun _ => False) _ Try.func28 rfl (by simp only [Try.ntmps28, List.length_cons, List.length_nil, Nat.reduceAdd, Nat.reduceSub]; rfl) ?_
  have hnl := Hm.norm_len k
  refine WC.seq (WC.region (WL.yld rfl (Yld.pure rfl rfl) (WL.nil (WQ.thenN (WQ.code ?_)))))
  refine WC.seqCut (fun τ H => τ = [(0, .string (bs (Hm.norm k))), (1, .string (bs s))] ∧ H = []) ?_ ?_
  · by_cases h64 : 64 < k.length
    · have hn : Sha.sum k = Hm.norm k := by rw [Hm.norm, if_pos h64]
      repeat' (first
    | refine goS ?_
    | ((with_reducible refine WL.isN_bin ?_); first | refine WL.yld rfl binQ ?_)
    | ((with_reducible refine WL.isN_iaddr ?_); first | refine WL.yld rfl iaddrQ ?_)
    | ((with_reducible refine WL.isN_conv ?_); first | refine WL.yld rfl convQ ?_)
    | ((with_reducible refine WL.isN_call ?_); first | refine WL.yld rfl (Yld.lenB rfl rfl rfl) ?_ | refine WL.step rfl (StepTo.callV (v := .string (bs (Hm.norm k))) (us := [.string (bs k)]) rfl rfl rfl rfl rfl (by kernel_rfl) (fun w hw => hn ▸ sum_q k (by omega) w) ?_) | refine WL.yld rfl lenQ ?_)
    | ((with_reducible refine WL.isN_alloc ?_); first | refine WL.step rfl (StepTo.allocA rfl rfl rfl rfl (fun _ => ?_)) | refine WL.step rfl (StepTo.alloc1 rfl rfl rfl rfl rfl (fun _ => ?_)))
    | ((with_reducible refine WL.isN_store ?_); first | refine WL.step rfl (StepTo.st1 rfl rfl rfl rfl rfl rfl ?_) | refine WL.step rfl (StepTo.stA rfl rfl rfl rfl rfl rfl rfl ?_) | refine WL.step rfl (StepTo.stR rfl rfl rfl rfl rfl rfl rfl ?_))
    | with_reducible refine WC.block ?_
    | (refine WC.cond rfl (fun hc => ?_) (fun hc => ?_) <;> (try first | (with_reducible replace hc := of_decide_eq_true hc) | (with_reducible replace hc := of_decide_eq_false hc) | (with_reducible replace hc := eqT hc) | (with_reducible replace hc := eqF hc) | (with_reducible replace hc := neT hc) | (with_reducible replace hc := neF hc) | (with_reducible replace hc := noT hc) | (with_reducible replace hc := noF hc)) <;> (try (exfalso; omega))))
      exact WQ.met _ _ [] (by repeat (first | exact Sub.nil | refine Sub.cons rfl ?_ | refine Sub.consE rfl (int_eq (by omega)) ?_)) ⟨by decide, rfl⟩ ⟨rfl, rfl⟩
    · have hn : k = Hm.norm k := by rw [Hm.norm, if_neg h64]
      repeat' (first
    | refine goS ?_
    | ((with_reducible refine WL.isN_bin ?_); first | refine WL.yld rfl binQ ?_)
    | ((with_reducible refine WL.isN_iaddr ?_); first | refine WL.yld rfl iaddrQ ?_)
    | ((with_reducible refine WL.isN_conv ?_); first | refine WL.yld rfl convQ ?_)
    | ((with_reducible refine WL.isN_call ?_); first | refine WL.yld rfl (Yld.lenB rfl rfl rfl) ?_ | refine WL.yld rfl lenQ ?_)
    | ((with_reducible refine WL.isN_alloc ?_); first | refine WL.step rfl (StepTo.allocA rfl rfl rfl rfl (fun _ => ?_)) | refine WL.step rfl (StepTo.alloc1 rfl rfl rfl rfl rfl (fun _ => ?_)))
    | ((with_reducible refine WL.isN_store ?_); first | refine WL.step rfl (StepTo.st1 rfl rfl rfl rfl rfl rfl ?_) | refine WL.step rfl (StepTo.stA rfl rfl rfl rfl rfl rfl rfl ?_) | refine WL.step rfl (StepTo.stR rfl rfl rfl rfl rfl rfl rfl ?_))
    | with_reducible refine WC.block ?_
    | (refine WC.cond rfl (fun hc => ?_) (fun hc => ?_) <;> (try first | (with_reducible replace hc := of_decide_eq_true hc) | (with_reducible replace hc := of_decide_eq_false hc) | (with_reducible replace hc := eqT hc) | (with_reducible replace hc := eqF hc) | (with_reducible replace hc := neT hc) | (with_reducible replace hc := neF hc) | (with_reducible replace hc := noT hc) | (with_reducible replace hc := noF hc)) <;> (try (exfalso; omega))))
      rw [← hn]
      exact WQ.met _ _ [] (by repeat (first | exact Sub.nil | refine Sub.cons rfl ?_ | refine Sub.consE rfl (int_eq (by omega)) ?_)) ⟨by decide, rfl⟩ ⟨rfl, rfl⟩
  rintro τ H ⟨rfl, rfl⟩
  have hsum : ∀ N : List UInt8, N = Hm.norm k → Hm.sum k s = Sha.sum (Hm.kpad N 92 ++ Sha.sum (Hm.kpad N 54 ++ s)) := fun N e => by rw [e]; rfl
  obtain ⟨N, hN⟩ : ∃ N, Hm.norm k = N := ⟨_, rfl⟩
  rw [hN] at hnl ⊢
  rw [hsum N hN.symm]
  clear hsum
  repeat' (first
    | refine goS ?_
    | ((with_reducible refine WL.isN_bin ?_); first | refine WL.yld rfl binQ ?_)
    | ((with_reducible refine WL.isN_iaddr ?_); first | refine WL.yld rfl iaddrQ ?_)
    | ((with_reducible refine WL.isN_conv ?_); first | refine WL.yld rfl convQ ?_)
    | ((with_reducible refine WL.isN_call ?_); first | refine WL.step rfl (StepTo.allocA (cs := List.replicate 64 (bv 0)) rfl rfl rfl (by kernel_rfl) (fun _ => ?_)) | refine WL.step rfl (StepTo.callN [] (us := [.string (bs N)]) rfl rfl rfl rfl rfl (by kernel_rfl) (fun w hw => padded_w N w) ?_) | refine WL.yld rfl lenQ ?_)
    | ((with_reducible refine WL.isN_alloc ?_); first | refine WL.step rfl (StepTo.allocA (cs := List.replicate 64 (bv 0)) rfl rfl rfl (by kernel_rfl) (fun _ => ?_)) | refine WL.step rfl (StepTo.allocA rfl rfl rfl rfl (fun _ => ?_)) | refine WL.step rfl (StepTo.alloc1 rfl rfl rfl rfl rfl (fun _ => ?_)))
    | ((with_reducible refine WL.isN_store ?_); first | refine WL.step rfl (StepTo.st1 rfl rfl rfl rfl rfl rfl ?_) | refine WL.step rfl (StepTo.stA rfl rfl rfl rfl rfl rfl rfl ?_) | refine WL.step rfl (StepTo.stR rfl rfl rfl rfl rfl rfl rfl ?_))
    | with_reducible refine WC.block ?_
    | (refine WC.cond rfl (fun hc => ?_) (fun hc => ?_) <;> (try first | (with_reducible replace hc := of_decide_eq_true hc) | (with_reducible replace hc := of_decide_eq_false hc) | (with_reducible replace hc := eqT hc) | (with_reducible replace hc := eqF hc) | (with_reducible replace hc := neT hc) | (with_reducible replace hc := neF hc) | (with_reducible replace hc := noT hc) | (with_reducible replace hc := noF hc)) <;> (try (exfalso; omega))))
  rename_i b5 b6
  rintro v NN ⟨B, rfl, rfl⟩
  repeat' (first
    | refine goS ?_
    | ((with_reducible refine WL.isN_bin ?_); first | refine WL.yld rfl binQ ?_)
    | ((with_reducible refine WL.isN_iaddr ?_); first | refine WL.yld rfl iaddrQ ?_)
    | ((with_reducible refine WL.isN_conv ?_); first | refine WL.yld rfl convQ ?_)
    | ((with_reducible refine WL.isN_call ?_); first | refine WL.yld rfl lenQ ?_)
    | ((with_reducible refine WL.isN_alloc ?_); first | refine WL.step rfl (StepTo.allocA rfl rfl rfl rfl (fun _ => ?_)) | refine WL.step rfl (StepTo.alloc1 rfl rfl rfl rfl rfl (fun _ => ?_)))
    | ((with_reducible refine WL.isN_store ?_); first | refine WL.step rfl (StepTo.st1 rfl rfl rfl rfl rfl rfl ?_) | refine WL.step rfl (StepTo.stA rfl rfl rfl rfl rfl rfl rfl ?_) | refine WL.step rfl (StepTo.stR rfl rfl rfl rfl rfl rfl rfl ?_))
    | with_reducible refine WC.block ?_
    | (refine WC.cond rfl (fun hc => ?_) (fun hc => ?_) <;> (try first | (with_reducible replace hc := of_decide_eq_true hc) | (with_reducible replace hc := of_decide_eq_false hc) | (with_reducible replace hc := eqT hc) | (with_reducible replace hc := eqF hc) | (with_reducible replace hc := neT hc) | (with_reducible replace hc := neF hc) | (with_reducible replace hc := noT hc) | (with_reducible replace hc := noF hc)) <;> (try (exfalso; omega))))
  refine WC.rng (α := KB) (gf := 45) (encs := kEnc) (S := fun xs => xs = kUp N 64) (Sp := fun _ => True) (N := 64) (m := 1) B (fun pre => [.box b5 77 (kFill 54 pre), .box b6 77 (kFill 92 pre)]) [.box B 9 [.string (bs N)]] [2, 1, 0]
    (fun x => [(7, .int .i64 (x.1.1 : Nat)), (8, bv x.1.2), (6, .pointer (some ⟨b6, 0, none⟩)), (5, .pointer (some ⟨b5, 0, none⟩))]) rfl (enters_of Try.func45 (by kernel_rfl) rfl) ⟨by decide, rfl⟩ ?_ ⟨_, _, List.mem_singleton.2 rfl⟩ (fun _ => rfl) (by decide)
    (fun w hw => pad_stops B 1 N (by omega) w (hw.holds (.box B 9 [.string (bs N)]) (by simp))) ?_ ?_ ?_
  · intro pre it hit
    simp only [List.mem_append, List.mem_cons, List.not_mem_nil, or_false] at hit
    rcases hit with (rfl | rfl) | rfl <;> exact ⟨_, _, _, rfl⟩
  · intro l x W
    change WF _ _ _ _ _ _ _ _ ((18, bv x.1.2) :: (17, .int .i64 (x.1.1 : Nat)) :: [(16, _), (15, _), (6, _), (5, _), (0, _), (1, _)]) _
    generalize x.1.1 = i
    generalize x.1.2 = c
    repeat' (first
    | with_reducible refine WFL.nil ?_
    | with_reducible refine WQ.thenN ?_
    | with_reducible refine WQ.codeF ?_
    | with_reducible refine WF.seq ?_
    | with_reducible refine WF.region ?_
    | ((with_reducible refine WFL.isN_move ?_); first | refine WFL.yld rfl (Yld.pure rfl nrmQ) ?_)
    | ((with_reducible refine WFL.isN_assign ?_); first | refine WFL.yld rfl (Yld.pure rfl nrmQ) ?_)
    | ((with_reducible refine WFL.isN_bin ?_); first | refine WFL.yld rfl (Yld.pure rfl nrmQ) ?_ | refine WFL.yld rfl (Yld.rem rfl rfl rfl rfl (by omega) (by omega)) ?_ | refine WFL.yld rfl (Yld.quo rfl rfl rfl rfl (by omega) (by omega) nrmQ) ?_ | refine WFL.yld rfl (Yld.eqlB rfl rfl rfl rfl) ?_ | refine WFL.yld rfl (Yld.neqB rfl rfl rfl rfl) ?_ | refine WFL.yld rfl (Yld.eqlA 4 rfl rfl rfl (by kernel_rfl) (by kernel_rfl) rfl rfl) ?_ | refine WFL.yld rfl (Yld.neqA 4 rfl rfl rfl (by kernel_rfl) (by kernel_rfl) rfl rfl) ?_ | refine WFL.yld rfl (Yld.quoT rfl rfl rfl rfl (by omega) nrmQ) ?_)
    | ((with_reducible refine WFL.isN_iaddr ?_); first | refine WFL.yld rfl (Yld.indexS 0 rfl rfl rfl rfl rfl rfl (by omega)) ?_ | refine WFL.yld rfl (Yld.indexS 1 rfl rfl rfl rfl rfl rfl (by omega)) ?_ | refine WFL.yld rfl (Yld.indexS 2 rfl rfl rfl rfl rfl rfl (by omega)) ?_ | refine WFL.yld rfl (Yld.indexS _ rfl rfl rfl rfl rfl rfl (by omega)) ?_ | refine WFL.yld rfl (Yld.indexA 0 rfl rfl rfl rfl rfl rfl (by omega)) ?_ | refine WFL.yld rfl (Yld.indexA 1 rfl rfl rfl rfl rfl rfl (by omega)) ?_ | refine WFL.yld rfl (Yld.indexA _ rfl rfl rfl rfl rfl rfl (by omega)) ?_)
    | ((with_reducible refine WFL.isN_conv ?_); first | refine WFL.yld rfl (Yld.convInt rfl rfl rfl rfl nrmQ) ?_)
    | ((with_reducible refine WFL.isN_call ?_); first | refine WFL.yld rfl (Yld.lenSlice rfl rfl rfl) ?_ | refine WFL.yld rfl (Yld.lenStr rfl rfl rfl) ?_)
    | ((with_reducible refine WFL.isN_alloc ?_); first | refine WFL.step rfl (StepTo.allocA rfl rfl rfl rfl (fun _ => ?_)) | refine WFL.step rfl (StepTo.alloc1 rfl rfl rfl rfl rfl (fun _ => ?_)))
    | ((with_reducible refine WFL.isN_store ?_); first | refine WFL.step rfl (StepTo.st1 rfl rfl rfl rfl rfl rfl ?_) | refine WFL.step rfl (StepTo.stA rfl rfl rfl rfl rfl rfl rfl ?_) | refine WFL.step rfl (StepTo.stR rfl rfl rfl rfl rfl rfl rfl ?_))
    | with_reducible refine WF.block ?_
    | with_reducible refine WF.scope ?_
    | with_reducible refine WF.label ?_
    | with_reducible refine WQ.ngN ?_
    | with_reducible refine WQ.ngR ?_
    | with_reducible refine WQ.ngX ?_
    | with_reducible refine WF.skip ?_
    | with_reducible refine WF.ret ?_
    | with_reducible refine WF.exit ?_
    | with_reducible refine WQ.thenR ?_
    | with_reducible refine WQ.thenX ?_
    | with_reducible refine WQ.blkN ?_
    | with_reducible refine WQ.blkR ?_
    | ((with_reducible refine WQ.blkX ?_ ?_); focus rfl)
    | ((with_reducible refine WQ.blkY ?_ ?_); focus rfl)
    | refine WF.condT rfl ?_
    | refine WF.condF rfl ?_
    | refine WF.condTh rfl gdQ ?_
    | refine WF.condFh rfl gdQ ?_
    | (refine WF.cond rfl (fun hc => ?_) (fun hc => ?_) <;> (try first | (with_reducible replace hc := of_decide_eq_true hc) | (with_reducible replace hc := of_decide_eq_false hc) | (with_reducible replace hc := eqT hc) | (with_reducible replace hc := eqF hc) | (with_reducible replace hc := neT hc) | (with_reducible replace hc := neF hc) | (with_reducible replace hc := noT hc) | (with_reducible replace hc := noF hc)) <;> (try (exfalso; omega))))
    exact WQ.met _ _ [] (by repeat (first | exact Sub.nil | refine Sub.cons rfl ?_ | refine Sub.consE rfl (int_eq (by omega)) ?_)) ⟨by decide, rfl⟩ ⟨rfl, rfl⟩
  · intro l pre x W hlen
    have hl5 := kFill_len 54 pre
    have hl6 := kFill_len 92 pre
    have e5 := kFill_next 54 pre x
    have e6 := kFill_next 92 pre x
    have hx := x.2
    show WF _ _ _ _ _ _ _ _ _ [Item.box b5 77 (kFill 54 pre), .box b6 77 (kFill 92 pre)]
    generalize kFill 54 (pre ++ [x]) = z5 at e5 ⊢
    generalize kFill 92 (pre ++ [x]) = z6 at e6 ⊢
    generalize kFill 54 pre = c5 at *
    generalize kFill 92 pre = c6 at *
    repeat' (first
    | with_reducible refine WFL.nil ?_
    | with_reducible refine WQ.thenN ?_
    | with_reducible refine WQ.codeF ?_
    | with_reducible refine WF.seq ?_
    | with_reducible refine WF.region ?_
    | ((with_reducible refine WFL.isN_move ?_); first | refine WFL.yld rfl (Yld.pure rfl nrmQ) ?_)
    | ((with_reducible refine WFL.isN_assign ?_); first | refine WFL.yld rfl (Yld.pure rfl nrmQ) ?_)
    | ((with_reducible refine WFL.isN_bin ?_); first | refine WFL.yld rfl (Yld.as (Yld.pure rfl rfl) (bXor (y := 54))) ?_ | refine WFL.yld rfl (Yld.as (Yld.pure rfl rfl) (bXor (y := 92))) ?_ | refine WFL.yld rfl (Yld.pure rfl nrmQ) ?_ | refine WFL.yld rfl (Yld.rem rfl rfl rfl rfl (by omega) (by omega)) ?_ | refine WFL.yld rfl (Yld.quo rfl rfl rfl rfl (by omega) (by omega) nrmQ) ?_ | refine WFL.yld rfl (Yld.eqlB rfl rfl rfl rfl) ?_ | refine WFL.yld rfl (Yld.neqB rfl rfl rfl rfl) ?_ | refine WFL.yld rfl (Yld.eqlA 4 rfl rfl rfl (by kernel_rfl) (by kernel_rfl) rfl rfl) ?_ | refine WFL.yld rfl (Yld.neqA 4 rfl rfl rfl (by kernel_rfl) (by kernel_rfl) rfl rfl) ?_ | refine WFL.yld rfl (Yld.quoT rfl rfl rfl rfl (by omega) nrmQ) ?_)
    | ((with_reducible refine WFL.isN_iaddr ?_); first | refine WFL.yld rfl (Yld.indexA x.1.1 rfl rfl rfl rfl rfl rfl hx) ?_ | refine WFL.yld rfl (Yld.indexS 0 rfl rfl rfl rfl rfl rfl (by omega)) ?_ | refine WFL.yld rfl (Yld.indexS 1 rfl rfl rfl rfl rfl rfl (by omega)) ?_ | refine WFL.yld rfl (Yld.indexS 2 rfl rfl rfl rfl rfl rfl (by omega)) ?_ | refine WFL.yld rfl (Yld.indexS _ rfl rfl rfl rfl rfl rfl (by omega)) ?_ | refine WFL.yld rfl (Yld.indexA 0 rfl rfl rfl rfl rfl rfl (by omega)) ?_ | refine WFL.yld rfl (Yld.indexA 1 rfl rfl rfl rfl rfl rfl (by omega)) ?_ | refine WFL.yld rfl (Yld.indexA _ rfl rfl rfl rfl rfl rfl (by omega)) ?_)
    | ((with_reducible refine WFL.isN_conv ?_); first | refine WFL.yld rfl (Yld.convInt rfl rfl rfl rfl nrmQ) ?_)
    | ((with_reducible refine WFL.isN_call ?_); first | refine WFL.yld rfl (Yld.lenSlice rfl rfl rfl) ?_ | refine WFL.yld rfl (Yld.lenStr rfl rfl rfl) ?_)
    | ((with_reducible refine WFL.isN_alloc ?_); first | refine WFL.step rfl (StepTo.allocA rfl rfl rfl rfl (fun _ => ?_)) | refine WFL.step rfl (StepTo.alloc1 rfl rfl rfl rfl rfl (fun _ => ?_)))
    | ((with_reducible refine WFL.isN_store ?_); first | refine WFL.step rfl (StepTo.stB 0 rfl rfl rfl rfl rfl rfl rfl rfl (by omega) (by omega) e5.symm setQ ?_) | refine WFL.step rfl (StepTo.stB 1 rfl rfl rfl rfl rfl rfl rfl rfl (by omega) (by omega) e6.symm setQ ?_) | refine WFL.step rfl (StepTo.st1 rfl rfl rfl rfl rfl rfl ?_) | refine WFL.step rfl (StepTo.stA rfl rfl rfl rfl rfl rfl rfl ?_) | refine WFL.step rfl (StepTo.stR rfl rfl rfl rfl rfl rfl rfl ?_))
    | with_reducible refine WF.block ?_
    | with_reducible refine WF.scope ?_
    | with_reducible refine WF.label ?_
    | with_reducible refine WQ.ngN ?_
    | with_reducible refine WQ.ngR ?_
    | with_reducible refine WQ.ngX ?_
    | with_reducible refine WF.skip ?_
    | with_reducible refine WF.ret ?_
    | with_reducible refine WF.exit ?_
    | with_reducible refine WQ.thenR ?_
    | with_reducible refine WQ.thenX ?_
    | with_reducible refine WQ.blkN ?_
    | with_reducible refine WQ.blkR ?_
    | ((with_reducible refine WQ.blkX ?_ ?_); focus rfl)
    | ((with_reducible refine WQ.blkY ?_ ?_); focus rfl)
    | refine WF.condT rfl ?_
    | refine WF.condF rfl ?_
    | refine WF.condTh rfl gdQ ?_
    | refine WF.condFh rfl gdQ ?_
    | (refine WF.cond rfl (fun hc => ?_) (fun hc => ?_) <;> (try first | (with_reducible replace hc := of_decide_eq_true hc) | (with_reducible replace hc := of_decide_eq_false hc) | (with_reducible replace hc := eqT hc) | (with_reducible replace hc := eqF hc) | (with_reducible replace hc := neT hc) | (with_reducible replace hc := neF hc) | (with_reducible replace hc := noT hc) | (with_reducible replace hc := noF hc)) <;> (try (exfalso; omega))))
    exact WQ.met _ _ [0, 1] (by repeat (first | exact Sub.nil | refine Sub.cons rfl ?_ | refine Sub.consE rfl (int_eq (by omega)) ?_)) ⟨by decide, rfl⟩ rfl
  intro hdi xs W Dm hds hxs hW hDm hDk
  have hf5 : kFill 54 xs = (Hm.kpad N 54).map bv := (congrArg (kFill 54) hxs).trans (kFill_all 54 N)
  have hf6 : kFill 92 xs = (Hm.kpad N 92).map bv := (congrArg (kFill 92) hxs).trans (kFill_all 92 N)
  clear hxs
  replace hW : Sat w (fun _ => False) [.box b5 77 (kFill 54 xs), .box b6 77 (kFill 92 xs), .box B 9 [.string (bs N)]] W := hW
  show WQ W (Bs [.box b5 77 (kFill 54 xs), .box b6 77 (kFill 92 xs), .box B 9 [.string (bs N)]]) _ _ _ [.box b5 77 (kFill 54 xs), .box b6 77 (kFill 92 xs), .box B 9 [.string (bs N)]]
  rw [hf5, hf6] at hW ⊢
  clear hf5 hf6
  have hends := fun w' => sat_ends (w' := w') (fun it hit => by
    simp only [List.mem_cons, List.not_mem_nil, or_false] at hit
    rcases hit with rfl | rfl | rfl <;> exact ⟨_, _, _, rfl⟩) hW hDm hDk
  have hp5 := Hm.kpad_len N 54
  have hp6 := Hm.kpad_len N 92
  clear hW hDk hk hN
  generalize Hm.kpad N 54 = p5 at *
  generalize Hm.kpad N 92 = p6 at *
  clear hnl
  refine WQ.blkN (WQ.thenN (WQ.code ?_))
  refine WC.nilFz 5 1 ?_
  repeat' (first
    | refine goS ?_
    | ((with_reducible refine WL.isN_bin ?_); first | refine WL.yld rfl binQ ?_)
    | ((with_reducible refine WL.isN_iaddr ?_); first | refine WL.yld rfl iaddrQ ?_)
    | ((with_reducible refine WL.isN_conv ?_); first | refine WL.yld rfl (Yld.ofBytes (s := p5) rfl rfl rfl rfl rfl hp5 (CellsAt.boxAll 2 rfl)) ?_ | refine WL.yld rfl convQ ?_)
    | ((with_reducible refine WL.isN_call ?_); first | refine WL.step rfl (StepTo.callP (us := [.pointer (some ⟨_, 0, none⟩), .string (bs p5)]) (HI := [.box _ 85 [.pointer none, .slice none ([] : List UInt8).length 0], .fz none ([] : List UInt8).length 0 5 1 (([] : List UInt8).map bv)]) [0, 1] [2, 3, 4] ⟨by decide, rfl⟩ rfl ⟨by decide, rfl⟩ rfl rfl rfl rfl rfl rfl (by kernel_rfl) (fun w hw hS => hwr_w _ none none 0 [] p5 (.inl rfl) (fun _ => rfl) (by simp; omega) w hS) ?_) | refine WL.yld rfl lenQ ?_)
    | ((with_reducible refine WL.isN_alloc ?_); first | refine WL.step rfl (StepTo.allocA rfl rfl rfl rfl (fun _ => ?_)) | refine WL.step rfl (StepTo.alloc1 rfl rfl rfl rfl rfl (fun _ => ?_)))
    | ((with_reducible refine WL.isN_store ?_); first | refine WL.step rfl (StepTo.st1 rfl rfl rfl rfl rfl rfl ?_) | refine WL.step rfl (StepTo.stA rfl rfl rfl rfl rfl rfl rfl ?_) | refine WL.step rfl (StepTo.stR rfl rfl rfl rfl rfl rfl rfl ?_))
    | ((with_reducible refine WL.isN_slice ?_); first | refine WL.step rfl (StepTo.yld (Yld.sliceAAll (m := 64) rfl rfl rfl rfl rfl (by omega)) rfl ?_))
    | with_reducible refine WC.block ?_
    | (refine WC.cond rfl (fun hc => ?_) (fun hc => ?_) <;> (try first | (with_reducible replace hc := of_decide_eq_true hc) | (with_reducible replace hc := of_decide_eq_false hc) | (with_reducible replace hc := eqT hc) | (with_reducible replace hc := eqF hc) | (with_reducible replace hc := neT hc) | (with_reducible replace hc := neF hc) | (with_reducible replace hc := noT hc) | (with_reducible replace hc := noF hc)) <;> (try (exfalso; omega))))
  rename_i b9
  rintro v NN ⟨rfl, A, c, hA, rfl⟩
  rw [List.nil_append] at hA ⊢
  repeat' (first
    | refine goS ?_
    | ((with_reducible refine WL.isN_bin ?_); first | refine WL.yld rfl binQ ?_)
    | ((with_reducible refine WL.isN_iaddr ?_); first | refine WL.yld rfl iaddrQ ?_)
    | ((with_reducible refine WL.isN_conv ?_); first | refine WL.yld rfl convQ ?_)
    | ((with_reducible refine WL.isN_call ?_); first | refine WL.step rfl (StepTo.callP (us := [.pointer (some ⟨b9, 0, none⟩), .string (bs s)]) (HI := [.box b9 85 [.pointer (some ⟨b9, 0, none⟩), .slice A p5.length c], .fz A p5.length c 5 1 (p5.map bv)]) [0, 1] [2, 3, 4] ⟨by decide, rfl⟩ rfl ⟨by decide, rfl⟩ rfl rfl rfl rfl rfl rfl (by kernel_rfl) (fun w hw hS => hwr_w b9 (some ⟨b9, 0, none⟩) A c p5 s (.inr rfl) hA (by omega) w hS) ?_) | refine WL.yld rfl lenQ ?_)
    | ((with_reducible refine WL.isN_alloc ?_); first | refine WL.step rfl (StepTo.allocA rfl rfl rfl rfl (fun _ => ?_)) | refine WL.step rfl (StepTo.alloc1 rfl rfl rfl rfl rfl (fun _ => ?_)))
    | ((with_reducible refine WL.isN_store ?_); first | refine WL.step rfl (StepTo.st1 rfl rfl rfl rfl rfl rfl ?_) | refine WL.step rfl (StepTo.stA rfl rfl rfl rfl rfl rfl rfl ?_) | refine WL.step rfl (StepTo.stR rfl rfl rfl rfl rfl rfl rfl ?_))
    | with_reducible refine WC.block ?_
    | (refine WC.cond rfl (fun hc => ?_) (fun hc => ?_) <;> (try first | (with_reducible replace hc := of_decide_eq_true hc) | (with_reducible replace hc := of_decide_eq_false hc) | (with_reducible replace hc := eqT hc) | (with_reducible replace hc := eqF hc) | (with_reducible replace hc := neT hc) | (with_reducible replace hc := neF hc) | (with_reducible replace hc := noT hc) | (with_reducible replace hc := noF hc)) <;> (try (exfalso; omega))))
  clear hA
  rintro v NN ⟨rfl, A, c, hA, rfl⟩
  have hpl : (p5 ++ s).length ≤ 1099511627776 := by rw [List.length_append]; omega
  have hil : (Sha.sum (p5 ++ s)).length = 32 := Sha.sum_len _
  generalize hms : p5 ++ s = ms at *
  have hsq := fun w => hsum_w b9 (some ⟨b9, 0, none⟩) A c ms hA hpl w
  generalize Sha.sum ms = d at *
  have hsl : (p6 ++ d).length ≤ 1099511627776 := by rw [List.length_append]; omega
  have hsq2 := fun w => sum_q (p6 ++ d) hsl w
  generalize Sha.sum (p6 ++ d) = z at *
  repeat' (first
    | refine goS ?_
    | ((with_reducible refine WL.isN_bin ?_); first | refine WL.yld rfl binQ ?_)
    | ((with_reducible refine WL.isN_iaddr ?_); first | refine WL.yld rfl iaddrQ ?_)
    | ((with_reducible refine WL.isN_conv ?_); first | refine WL.yld rfl convQ ?_)
    | ((with_reducible refine WL.isN_call ?_); first | refine WL.yld rfl lenQ ?_)
    | ((with_reducible refine WL.isN_alloc ?_); first | refine WL.step rfl (StepTo.allocA rfl rfl rfl rfl (fun _ => ?_)) | refine WL.step rfl (StepTo.alloc1 rfl rfl rfl rfl rfl (fun _ => ?_)))
    | ((with_reducible refine WL.isN_store ?_); first | refine WL.step rfl (StepTo.st1 rfl rfl rfl rfl rfl rfl ?_) | refine WL.step rfl (StepTo.stA rfl rfl rfl rfl rfl rfl rfl ?_) | refine WL.step rfl (StepTo.stR rfl rfl rfl rfl rfl rfl rfl ?_))
    | with_reducible refine WC.block ?_
    | (refine WC.cond rfl (fun hc => ?_) (fun hc => ?_) <;> (try first | (with_reducible replace hc := of_decide_eq_true hc) | (with_reducible replace hc := of_decide_eq_false hc) | (with_reducible replace hc := eqT hc) | (with_reducible replace hc := eqF hc) | (with_reducible replace hc := neT hc) | (with_reducible replace hc := neF hc) | (with_reducible replace hc := noT hc) | (with_reducible replace hc := noF hc)) <;> (try (exfalso; omega))))
  refine WC.anyI [3] (by kernel_rfl) ?_
  refine WA.take (idx := [3]) 0 rfl (by kernel_rfl) (by kernel_rfl) (by kernel_rfl) rfl ⟨by decide, rfl⟩ (Yld.sliceAAll (m := 64) rfl rfl rfl rfl rfl (by omega)) ?_
  refine WA.take (idx := [3]) 1 rfl (by kernel_rfl) (by kernel_rfl) (by kernel_rfl) rfl ⟨by decide, rfl⟩ (by first | exact Yld.ofBytes (s := p6) rfl rfl rfl rfl rfl hp6 (CellsAt.boxAll 0 rfl) | exact Yld.convInt rfl rfl rfl rfl nrmQ) ?_
  refine WA.one 2 (by kernel_rfl) rfl rfl ?_
  refine StepTo.callP (us := [.pointer (some ⟨b9, 0, none⟩)]) [0, 1] [2, 3, 4] ⟨by decide, rfl⟩ rfl ⟨by decide, rfl⟩ rfl rfl rfl rfl rfl rfl (by kernel_rfl) (fun w hw hS => hsq w hS) ?_
  rintro v NN ⟨rfl, rfl⟩
  refine ⟨⟨[3], by decide, rfl⟩, ?_⟩
  refine WA.take (idx := [3]) 3 rfl (by kernel_rfl) (by kernel_rfl) (by kernel_rfl) rfl ⟨by decide, rfl⟩ (by first | exact Yld.concatS rfl rfl rfl (by omega) | exact Yld.pure rfl nrmQ | exact Yld.rem rfl rfl rfl rfl (by omega) (by omega) | exact Yld.quo rfl rfl rfl rfl (by omega) (by omega) nrmQ | exact Yld.eqlB rfl rfl rfl rfl | exact Yld.neqB rfl rfl rfl rfl | exact Yld.eqlA 4 rfl rfl rfl (by kernel_rfl) (by kernel_rfl) rfl rfl | exact Yld.neqA 4 rfl rfl rfl (by kernel_rfl) (by kernel_rfl) rfl rfl | exact Yld.quoT rfl rfl rfl rfl (by omega) nrmQ) ?_
  refine WA.one 4 (by kernel_rfl) rfl rfl ?_
  refine StepTo.callV (v := .string (bs z)) (us := [.string (bs (p6 ++ d))]) rfl rfl rfl rfl rfl (by kernel_rfl) (fun w hw => hsq2 w) ⟨⟨[3], by decide, rfl⟩, ?_⟩
  refine WA.take (idx := [3]) 5 rfl (by kernel_rfl) (by kernel_rfl) (by kernel_rfl) rfl ⟨by decide, rfl⟩ (Yld.pure rfl nrmQ) ?_
  refine WA.done (by kernel_rfl) ?_
  refine WQ.thenN (WQ.code (WC.ret ?_))
  exact WQ.bodyM hds rfl rfl fun w' hw' => ⟨(hends w' hw'.ext).1, rfl, (hends w' hw'.ext).2⟩
end Go.Proofs.Ytheilikelcgdmaa
