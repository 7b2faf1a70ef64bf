/- The digest: what stands behind a text, of the document. -/
import Derived.Test.YtheilikelcgdmaaShE
import Derived.Test.YtheilikelcgdmaaRow
namespace Go.Proofs.Ytheilikelcgdmaa
open Go.RowKit
open Go.Proofs.Ytheilikelcgdmaa.Sha
set_option linter.unusedVariables false
set_option maxRecDepth 100000

set_option maxHeartbeats 4000000 in
theorem rpad_q (n : Nat) (hn : n ≤ 1099511627776) (w : World) : Calls Try.prog 43 #[.int .i64 n] w fun e w' => e = .returned (.string (bs (pad n))) ∧ Below w.heap.size w w' := by
  have hlt := noughts_lt n
  have h8 : Value.int .u64 (IntKind.u64.wrap ((n : Int) * 8)) = .int .u64 ((n * 8 : Nat) : Int) := by
    have : IntKind.u64.wrap ((n : Int) * 8) = (n : Int) * 8 := by rw [IntKind.wrap_u64]; omega
    rw [this]; congr 1
  have hc : Value.int .u64 (IntKind.u64.wrap (n : Int)) = .int .u64 (n : Int) := by
    have : IntKind.u64.wrap (n : Int) = (n : Int) := by rw [IntKind.wrap_u64]; omega
    rw [this]
  have hp : pad n = (128 :: List.replicate (noughts n) 0) ++ be8 (n * 8) := rfl
  have hz : ∀ j, j < noughts n → ((((n : Int) + ((j + 1 : Nat) : Int) + 8) % 64) != 0) = true := fun j hj => bneT (by unfold noughts at hj; omega)
  have hz0 : ((((n : Int) + ((noughts n + 1 : Nat) : Int) + 8) % 64) != 0) = false := bneF (by unfold noughts; omega)
  rw [hp]
  clear hp
  have hll : (be8 (n * 8)).length = 8 := rfl
  generalize noughts n = nn at *
  have hg0 : decide ((n : Int) < 0) = false := decide_eq_false (by omega)
  refine enterW (fun _ => False) _ Try.func43 rfl (by simp only [Try.ntmps43, List.length_cons, List.length_nil, Nat.reduceAdd, Nat.reduceSub]; rfl) ?_
  repeat' (first
    | refine goS ?_
    | ((with_reducible refine WL.isN_bin ?_); first | refine WL.yld rfl binQ ?_)
    | ((with_reducible refine WL.isN_conv ?_); first | refine WL.yld rfl convQ ?_)
    | ((with_reducible refine WL.isN_call ?_); first | refine WL.yld rfl lenQ ?_ | refine WL.step rfl (StepTo.append 0 rfl rfl rfl rfl rfl rfl rfl rfl rfl rfl rfl rfl (by first | exact CellsAt.boxAll 0 rfl | exact CellsAt.boxAll 1 rfl | exact CellsAt.boxAll 2 rfl | exact CellsAt.boxAll 3 rfl | exact CellsAt.boxAll 4 rfl) rfl rfl (by omega) (fun _ _ => ⟨_, setQ, ?_⟩)) | refine WL.step rfl (StepTo.append 1 rfl rfl rfl rfl rfl rfl rfl rfl rfl rfl rfl rfl (by first | exact CellsAt.boxAll 0 rfl | exact CellsAt.boxAll 1 rfl | exact CellsAt.boxAll 2 rfl | exact CellsAt.boxAll 3 rfl | exact CellsAt.boxAll 4 rfl) rfl rfl (by omega) (fun _ _ => ⟨_, setQ, ?_⟩)) | refine WL.step rfl (StepTo.append 2 rfl rfl rfl rfl rfl rfl rfl rfl rfl rfl rfl rfl (by first | exact CellsAt.boxAll 0 rfl | exact CellsAt.boxAll 1 rfl | exact CellsAt.boxAll 2 rfl | exact CellsAt.boxAll 3 rfl | exact CellsAt.boxAll 4 rfl) rfl rfl (by omega) (fun _ _ => ⟨_, setQ, ?_⟩)) | refine WL.step rfl (StepTo.append 3 rfl rfl rfl rfl rfl rfl rfl rfl rfl rfl rfl rfl (by first | exact CellsAt.boxAll 0 rfl | exact CellsAt.boxAll 1 rfl | exact CellsAt.boxAll 2 rfl | exact CellsAt.boxAll 3 rfl | exact CellsAt.boxAll 4 rfl) rfl rfl (by omega) (fun _ _ => ⟨_, setQ, ?_⟩)) | refine WL.step rfl (StepTo.append 4 rfl rfl rfl rfl rfl rfl rfl rfl rfl rfl rfl rfl (by first | exact CellsAt.boxAll 0 rfl | exact CellsAt.boxAll 1 rfl | exact CellsAt.boxAll 2 rfl | exact CellsAt.boxAll 3 rfl | exact CellsAt.boxAll 4 rfl) rfl rfl (by omega) (fun _ _ => ⟨_, setQ, ?_⟩)) | refine WL.step rfl (StepTo.append 5 rfl rfl rfl rfl rfl rfl rfl rfl rfl rfl rfl rfl (by first | exact CellsAt.boxAll 0 rfl | exact CellsAt.boxAll 1 rfl | exact CellsAt.boxAll 2 rfl | exact CellsAt.boxAll 3 rfl | exact CellsAt.boxAll 4 rfl) rfl rfl (by omega) (fun _ _ => ⟨_, setQ, ?_⟩)) | refine WL.step rfl (StepTo.append 6 rfl rfl rfl rfl rfl rfl rfl rfl rfl rfl rfl rfl (by first | exact CellsAt.boxAll 0 rfl | exact CellsAt.boxAll 1 rfl | exact CellsAt.boxAll 2 rfl | exact CellsAt.boxAll 3 rfl | exact CellsAt.boxAll 4 rfl) rfl rfl (by omega) (fun _ _ => ⟨_, setQ, ?_⟩)))
    | ((with_reducible refine WL.isN_bslice ?_); first | refine WL.step rfl (StepTo.buildSlice (cs := flat bc [128]) rfl rfl rfl rfl rfl rfl rfl rfl rfl rfl cellsOfQ (fun _ => ?_)) | refine WL.step rfl (StepTo.buildSlice rfl rfl rfl rfl rfl rfl rfl rfl rfl rfl cellsOfQ (fun _ => ?_)))
    | with_reducible refine WC.block ?_
    | (refine WC.cond rfl (fun hc => ?_) (fun hc => ?_) <;> (try first | (with_reducible replace hc := of_decide_eq_true hc) | (with_reducible replace hc := of_decide_eq_false hc) | (with_reducible replace hc := eqT hc) | (with_reducible replace hc := eqF hc) | (with_reducible replace hc := neT hc) | (with_reducible replace hc := neF hc) | (with_reducible replace hc := noT hc) | (with_reducible replace hc := noF hc)) <;> (try (exfalso; omega))))
  rename_i bx
  refine WC.boxRow 0 1 1 rfl rfl (by omega) ?_
  refine WC.loop (fun mm τ H => ∃ (j m : Nat) (A : Option Addr) (c : Nat) (l : List UInt8), j ≤ nn ∧ mm = nn - j ∧ m = j + 1 ∧ l = 128 :: List.replicate j 0 ∧
      τ = [(0, .int .i64 n), (3, .slice A m c)] ∧ H = [.row A m c 5 1 (flat bc l)])
    nn _ _ [0] ?_ ?_ ⟨0, 1, some ⟨bx, 0, none⟩, 1, [128], by omega, rfl, rfl, rfl, rfl, rfl⟩ ?_
  · exact (by repeat (first | exact Sub.nil | refine Sub.cons rfl ?_ | refine Sub.consE rfl (int_eq (by omega)) ?_))
  · exact ⟨by decide, rfl⟩
  rintro mm τ H ⟨j, m, A, c, l, hj, rfl, rfl, hl, rfl, rfl⟩
  by_cases hjn : j < nn
  · have g1 := hz j hjn
    have hnx : flat bc l ++ [bv 0] = flat bc (128 :: List.replicate (j + 1) 0) := by rw [List.replicate_succ', ← List.cons_append, flat_append, hl]; rfl
    obtain ⟨l2, hl2⟩ : ∃ l2, l2 = 128 :: List.replicate (j + 1) (0 : UInt8) := ⟨_, rfl⟩
    rw [← hl2] at hnx
    clear hl hz hz0
    repeat' (first
    | refine goS ?_
    | ((with_reducible refine WL.isN_bin ?_); first | refine WL.yld rfl (Yld.rem rfl rfl rfl rfl (by omega) (by omega)) ?_ | refine WL.yld rfl binQ ?_)
    | ((with_reducible refine WL.isN_conv ?_); first | refine WL.yld rfl convQ ?_)
    | ((with_reducible refine WL.isN_call ?_); first | refine WL.step rfl (StepTo.appendTo 1 (flat bc l2) rfl rfl rfl rfl rfl rfl rfl rfl rfl rfl rfl rfl (CellsAt.boxAll 0 rfl) rfl rfl (by omega) hnx (fun _ _ => ⟨_, setQ, ?_⟩)) | refine WL.yld rfl lenQ ?_ | refine WL.step rfl (StepTo.append 0 rfl rfl rfl rfl rfl rfl rfl rfl rfl rfl rfl rfl (by first | exact CellsAt.boxAll 0 rfl | exact CellsAt.boxAll 1 rfl | exact CellsAt.boxAll 2 rfl | exact CellsAt.boxAll 3 rfl | exact CellsAt.boxAll 4 rfl) rfl rfl (by omega) (fun _ _ => ⟨_, setQ, ?_⟩)) | refine WL.step rfl (StepTo.append 1 rfl rfl rfl rfl rfl rfl rfl rfl rfl rfl rfl rfl (by first | exact CellsAt.boxAll 0 rfl | exact CellsAt.boxAll 1 rfl | exact CellsAt.boxAll 2 rfl | exact CellsAt.boxAll 3 rfl | exact CellsAt.boxAll 4 rfl) rfl rfl (by omega) (fun _ _ => ⟨_, setQ, ?_⟩)) | refine WL.step rfl (StepTo.append 2 rfl rfl rfl rfl rfl rfl rfl rfl rfl rfl rfl rfl (by first | exact CellsAt.boxAll 0 rfl | exact CellsAt.boxAll 1 rfl | exact CellsAt.boxAll 2 rfl | exact CellsAt.boxAll 3 rfl | exact CellsAt.boxAll 4 rfl) rfl rfl (by omega) (fun _ _ => ⟨_, setQ, ?_⟩)) | refine WL.step rfl (StepTo.append 3 rfl rfl rfl rfl rfl rfl rfl rfl rfl rfl rfl rfl (by first | exact CellsAt.boxAll 0 rfl | exact CellsAt.boxAll 1 rfl | exact CellsAt.boxAll 2 rfl | exact CellsAt.boxAll 3 rfl | exact CellsAt.boxAll 4 rfl) rfl rfl (by omega) (fun _ _ => ⟨_, setQ, ?_⟩)) | refine WL.step rfl (StepTo.append 4 rfl rfl rfl rfl rfl rfl rfl rfl rfl rfl rfl rfl (by first | exact CellsAt.boxAll 0 rfl | exact CellsAt.boxAll 1 rfl | exact CellsAt.boxAll 2 rfl | exact CellsAt.boxAll 3 rfl | exact CellsAt.boxAll 4 rfl) rfl rfl (by omega) (fun _ _ => ⟨_, setQ, ?_⟩)) | refine WL.step rfl (StepTo.append 5 rfl rfl rfl rfl rfl rfl rfl rfl rfl rfl rfl rfl (by first | exact CellsAt.boxAll 0 rfl | exact CellsAt.boxAll 1 rfl | exact CellsAt.boxAll 2 rfl | exact CellsAt.boxAll 3 rfl | exact CellsAt.boxAll 4 rfl) rfl rfl (by omega) (fun _ _ => ⟨_, setQ, ?_⟩)) | refine WL.step rfl (StepTo.append 6 rfl rfl rfl rfl rfl rfl rfl rfl rfl rfl rfl rfl (by first | exact CellsAt.boxAll 0 rfl | exact CellsAt.boxAll 1 rfl | exact CellsAt.boxAll 2 rfl | exact CellsAt.boxAll 3 rfl | exact CellsAt.boxAll 4 rfl) rfl rfl (by omega) (fun _ _ => ⟨_, setQ, ?_⟩)))
    | ((with_reducible refine WL.isN_bslice ?_); first | refine WL.step rfl (StepTo.buildSlice (cs := [bv 0]) rfl rfl rfl rfl rfl rfl rfl rfl rfl rfl cellsOfQ (fun _ => ?_)) | refine WL.step rfl (StepTo.buildSlice rfl rfl rfl rfl rfl rfl rfl rfl rfl rfl cellsOfQ (fun _ => ?_)))
    | with_reducible refine WC.block ?_
    | (refine WC.cond rfl (fun hc => ?_) (fun hc => ?_) <;> (try first | (with_reducible replace hc := of_decide_eq_true hc) | (with_reducible replace hc := of_decide_eq_false hc) | (with_reducible replace hc := eqT hc) | (with_reducible replace hc := eqF hc) | (with_reducible replace hc := neT hc) | (with_reducible replace hc := neF hc) | (with_reducible replace hc := noT hc) | (with_reducible replace hc := noF hc)) <;> (try (exfalso; omega))))
    exact WQ.rnd (nn - (j + 1)) _ _ [1] (by repeat (first | exact Sub.nil | refine Sub.cons rfl ?_ | refine Sub.consE rfl (int_eq (by omega)) ?_)) ⟨by decide, rfl⟩ (by omega) ⟨j + 1, j + 1 + 1, _, _, l2, by omega, rfl, rfl, hl2, rfl, rfl⟩
  obtain rfl : nn = j := by omega
  repeat' (first
    | refine goS ?_
    | ((with_reducible refine WL.isN_bin ?_); first | refine WL.yld rfl (Yld.rem rfl rfl rfl rfl (by omega) (by omega)) ?_ | refine WL.yld rfl (Yld.pure rfl h8) ?_ | refine WL.yld rfl binQ ?_)
    | ((with_reducible refine WL.isN_conv ?_); first | refine WL.yld rfl (Yld.convInt rfl rfl rfl rfl hc) ?_ | refine WL.yld rfl convQ ?_)
    | ((with_reducible refine WL.isN_call ?_); first | refine WL.yld rfl lenQ ?_ | refine WL.step rfl (StepTo.append 0 rfl rfl rfl rfl rfl rfl rfl rfl rfl rfl rfl rfl (by first | exact CellsAt.boxAll 0 rfl | exact CellsAt.boxAll 1 rfl | exact CellsAt.boxAll 2 rfl | exact CellsAt.boxAll 3 rfl | exact CellsAt.boxAll 4 rfl) rfl rfl (by omega) (fun _ _ => ⟨_, setQ, ?_⟩)) | refine WL.step rfl (StepTo.append 1 rfl rfl rfl rfl rfl rfl rfl rfl rfl rfl rfl rfl (by first | exact CellsAt.boxAll 0 rfl | exact CellsAt.boxAll 1 rfl | exact CellsAt.boxAll 2 rfl | exact CellsAt.boxAll 3 rfl | exact CellsAt.boxAll 4 rfl) rfl rfl (by omega) (fun _ _ => ⟨_, setQ, ?_⟩)) | refine WL.step rfl (StepTo.append 2 rfl rfl rfl rfl rfl rfl rfl rfl rfl rfl rfl rfl (by first | exact CellsAt.boxAll 0 rfl | exact CellsAt.boxAll 1 rfl | exact CellsAt.boxAll 2 rfl | exact CellsAt.boxAll 3 rfl | exact CellsAt.boxAll 4 rfl) rfl rfl (by omega) (fun _ _ => ⟨_, setQ, ?_⟩)) | refine WL.step rfl (StepTo.append 3 rfl rfl rfl rfl rfl rfl rfl rfl rfl rfl rfl rfl (by first | exact CellsAt.boxAll 0 rfl | exact CellsAt.boxAll 1 rfl | exact CellsAt.boxAll 2 rfl | exact CellsAt.boxAll 3 rfl | exact CellsAt.boxAll 4 rfl) rfl rfl (by omega) (fun _ _ => ⟨_, setQ, ?_⟩)) | refine WL.step rfl (StepTo.append 4 rfl rfl rfl rfl rfl rfl rfl rfl rfl rfl rfl rfl (by first | exact CellsAt.boxAll 0 rfl | exact CellsAt.boxAll 1 rfl | exact CellsAt.boxAll 2 rfl | exact CellsAt.boxAll 3 rfl | exact CellsAt.boxAll 4 rfl) rfl rfl (by omega) (fun _ _ => ⟨_, setQ, ?_⟩)) | refine WL.step rfl (StepTo.append 5 rfl rfl rfl rfl rfl rfl rfl rfl rfl rfl rfl rfl (by first | exact CellsAt.boxAll 0 rfl | exact CellsAt.boxAll 1 rfl | exact CellsAt.boxAll 2 rfl | exact CellsAt.boxAll 3 rfl | exact CellsAt.boxAll 4 rfl) rfl rfl (by omega) (fun _ _ => ⟨_, setQ, ?_⟩)) | refine WL.step rfl (StepTo.append 6 rfl rfl rfl rfl rfl rfl rfl rfl rfl rfl rfl rfl (by first | exact CellsAt.boxAll 0 rfl | exact CellsAt.boxAll 1 rfl | exact CellsAt.boxAll 2 rfl | exact CellsAt.boxAll 3 rfl | exact CellsAt.boxAll 4 rfl) rfl rfl (by omega) (fun _ _ => ⟨_, setQ, ?_⟩)))
    | ((with_reducible refine WL.isN_bslice ?_); first | refine WL.step rfl (StepTo.buildSlice rfl rfl rfl rfl rfl rfl rfl rfl rfl rfl cellsOfQ (fun _ => ?_)))
    | with_reducible refine WC.block ?_
    | (refine WC.cond rfl (fun hc => ?_) (fun hc => ?_) <;> (try first | (with_reducible replace hc := of_decide_eq_true hc) | (with_reducible replace hc := of_decide_eq_false hc) | (with_reducible replace hc := eqT hc) | (with_reducible replace hc := eqF hc) | (with_reducible replace hc := neT hc) | (with_reducible replace hc := neF hc) | (with_reducible replace hc := noT hc) | (with_reducible replace hc := noF hc)) <;> (try (exfalso; omega))))
  refine WC.loop (fun mm τ H => ∃ (q m : Nat) (A : Option Addr) (c : Nat) (l : List UInt8), q ≤ 8 ∧ mm = q ∧ m = nn + 1 + (8 - q) ∧ l = (128 :: List.replicate nn 0) ++ (be8 (n * 8)).take (8 - q) ∧
      τ = [(3, .slice A m c), (4, .int .u64 ((n * 8 : Nat) : Int)), (5, .int .i64 ((q : Int) - 1))] ∧ H = [.row A m c 5 1 (flat bc l)])
    8 _ _ [0] ?_ ?_ ⟨8, nn + 1, A, c, l, by omega, rfl, by omega, by rw [hl]; simp, rfl, rfl⟩ ?_
  · exact (by repeat (first | exact Sub.nil | refine Sub.cons rfl ?_ | refine Sub.consE rfl (int_eq (by omega)) ?_))
  · exact ⟨by decide, rfl⟩
  clear hl hz hz0
  rintro mm τ H ⟨q, m, A, c, l, hq, rfl, hm, hl, rfl, rfl⟩
  by_cases hq0 : 0 < mm
  · obtain ⟨i, rfl⟩ : ∃ i, mm = i + 1 := ⟨mm - 1, by omega⟩
    have hnx : flat bc l ++ [bv (UInt8.ofNat (n * 8 / 2 ^ (8 * i)))] = flat bc ((128 :: List.replicate nn 0) ++ (be8 (n * 8)).take (8 - i)) := by rw [be8_take (n * 8) i (by omega), ← List.append_assoc, flat_append, ← hl]; rfl
    obtain ⟨l2, hl2⟩ : ∃ l2, l2 = (128 :: List.replicate nn (0 : UInt8)) ++ (be8 (n * 8)).take (8 - i) := ⟨_, rfl⟩
    rw [← hl2] at hnx
    have hmul : Value.int .i64 (IntKind.i64.wrap (8 * (((i + 1 : Nat) : Int) - 1))) = .int .i64 ((8 * i : Nat) : Int) := by rw [IntWalk.i64_in _ (by omega)]; congr 1; omega
    have hb : Nat.ble (8 * i) 64 = true := Nat.ble_eq_true_of_le (by omega)
    have hdv : Value.int .u64 (((n * 8 : Nat) : Int) / 2 ^ (8 * i)) = .int .u64 ((n * 8 / 2 ^ (8 * i) : Nat) : Int) := by congr 1
    have hg1 : decide ((((i + 1 : Nat) : Int) - 1) ≥ 0) = true := decide_eq_true (by omega)
    clear hl
    generalize n * 8 / 2 ^ (8 * i) = z at *
    repeat' (first
    | refine goS ?_
    | ((with_reducible refine WL.isN_bin ?_); first | refine WL.yld rfl (Yld.pure rfl hmul) ?_ | refine WL.yld rfl (Yld.shr (8 * i) rfl rfl rfl hb hdv) ?_ | refine WL.yld rfl binQ ?_)
    | ((with_reducible refine WL.isN_conv ?_); first | refine WL.yld rfl (Yld.convInt rfl rfl rfl rfl bOfN) ?_ | refine WL.yld rfl convQ ?_)
    | ((with_reducible refine WL.isN_call ?_); first | refine WL.step rfl (StepTo.appendTo 1 (flat bc l2) rfl rfl rfl rfl rfl rfl rfl rfl rfl rfl rfl rfl (CellsAt.boxAll 0 rfl) rfl rfl (by omega) hnx (fun _ _ => ⟨_, setQ, ?_⟩)) | refine WL.yld rfl lenQ ?_ | refine WL.step rfl (StepTo.append 0 rfl rfl rfl rfl rfl rfl rfl rfl rfl rfl rfl rfl (by first | exact CellsAt.boxAll 0 rfl | exact CellsAt.boxAll 1 rfl | exact CellsAt.boxAll 2 rfl | exact CellsAt.boxAll 3 rfl | exact CellsAt.boxAll 4 rfl) rfl rfl (by omega) (fun _ _ => ⟨_, setQ, ?_⟩)) | refine WL.step rfl (StepTo.append 1 rfl rfl rfl rfl rfl rfl rfl rfl rfl rfl rfl rfl (by first | exact CellsAt.boxAll 0 rfl | exact CellsAt.boxAll 1 rfl | exact CellsAt.boxAll 2 rfl | exact CellsAt.boxAll 3 rfl | exact CellsAt.boxAll 4 rfl) rfl rfl (by omega) (fun _ _ => ⟨_, setQ, ?_⟩)) | refine WL.step rfl (StepTo.append 2 rfl rfl rfl rfl rfl rfl rfl rfl rfl rfl rfl rfl (by first | exact CellsAt.boxAll 0 rfl | exact CellsAt.boxAll 1 rfl | exact CellsAt.boxAll 2 rfl | exact CellsAt.boxAll 3 rfl | exact CellsAt.boxAll 4 rfl) rfl rfl (by omega) (fun _ _ => ⟨_, setQ, ?_⟩)) | refine WL.step rfl (StepTo.append 3 rfl rfl rfl rfl rfl rfl rfl rfl rfl rfl rfl rfl (by first | exact CellsAt.boxAll 0 rfl | exact CellsAt.boxAll 1 rfl | exact CellsAt.boxAll 2 rfl | exact CellsAt.boxAll 3 rfl | exact CellsAt.boxAll 4 rfl) rfl rfl (by omega) (fun _ _ => ⟨_, setQ, ?_⟩)) | refine WL.step rfl (StepTo.append 4 rfl rfl rfl rfl rfl rfl rfl rfl rfl rfl rfl rfl (by first | exact CellsAt.boxAll 0 rfl | exact CellsAt.boxAll 1 rfl | exact CellsAt.boxAll 2 rfl | exact CellsAt.boxAll 3 rfl | exact CellsAt.boxAll 4 rfl) rfl rfl (by omega) (fun _ _ => ⟨_, setQ, ?_⟩)) | refine WL.step rfl (StepTo.append 5 rfl rfl rfl rfl rfl rfl rfl rfl rfl rfl rfl rfl (by first | exact CellsAt.boxAll 0 rfl | exact CellsAt.boxAll 1 rfl | exact CellsAt.boxAll 2 rfl | exact CellsAt.boxAll 3 rfl | exact CellsAt.boxAll 4 rfl) rfl rfl (by omega) (fun _ _ => ⟨_, setQ, ?_⟩)) | refine WL.step rfl (StepTo.append 6 rfl rfl rfl rfl rfl rfl rfl rfl rfl rfl rfl rfl (by first | exact CellsAt.boxAll 0 rfl | exact CellsAt.boxAll 1 rfl | exact CellsAt.boxAll 2 rfl | exact CellsAt.boxAll 3 rfl | exact CellsAt.boxAll 4 rfl) rfl rfl (by omega) (fun _ _ => ⟨_, setQ, ?_⟩)))
    | ((with_reducible refine WL.isN_bslice ?_); first | refine WL.step rfl (StepTo.buildSlice rfl rfl rfl rfl rfl rfl rfl rfl rfl rfl cellsOfQ (fun _ => ?_)))
    | with_reducible refine WC.block ?_
    | (refine WC.cond rfl (fun hc => ?_) (fun hc => ?_) <;> (try first | (with_reducible replace hc := of_decide_eq_true hc) | (with_reducible replace hc := of_decide_eq_false hc) | (with_reducible replace hc := eqT hc) | (with_reducible replace hc := eqF hc) | (with_reducible replace hc := neT hc) | (with_reducible replace hc := neF hc) | (with_reducible replace hc := noT hc) | (with_reducible replace hc := noF hc)) <;> (try (exfalso; omega))))
    exact WQ.rnd i _ _ [1] (by repeat (first | exact Sub.nil | refine Sub.cons rfl ?_ | refine Sub.consE rfl (int_eq (by omega)) ?_)) ⟨by decide, rfl⟩ (by omega) ⟨i, m + 1, _, _, l2, by omega, rfl, by omega, hl2, rfl, rfl⟩
  obtain rfl : mm = 0 := by omega
  have hl2 : l = (128 :: List.replicate nn 0) ++ be8 (n * 8) := by rw [hl, Nat.sub_zero, List.take_of_length_le (by omega)]
  rw [← hl2]
  have hln : l.length = m := by rw [hl2, List.length_append, hll, hm]; simp
  clear hl hl2 hll
  have hg1 : decide (((0 : Nat) : Int) - 1 ≥ 0) = false := rfl
  refine WC.rowAt 0 rfl (by omega) fun g5 hg5 => ?_
  subst hg5
  repeat' (first
    | refine goS ?_
    | ((with_reducible refine WL.isN_bin ?_); first | refine WL.yld rfl binQ ?_)
    | ((with_reducible refine WL.isN_conv ?_); first | refine WL.yld rfl (Yld.ofBytes (s := l) rfl rfl rfl rfl rfl hln (by rw [← flat_bc l]; exact CellsAt.rowAll 0 rfl)) ?_ | refine WL.yld rfl convQ ?_)
    | ((with_reducible refine WL.isN_call ?_); first | refine WL.yld rfl lenQ ?_ | refine WL.step rfl (StepTo.append 0 rfl rfl rfl rfl rfl rfl rfl rfl rfl rfl rfl rfl (by first | exact CellsAt.boxAll 0 rfl | exact CellsAt.boxAll 1 rfl | exact CellsAt.boxAll 2 rfl | exact CellsAt.boxAll 3 rfl | exact CellsAt.boxAll 4 rfl) rfl rfl (by omega) (fun _ _ => ⟨_, setQ, ?_⟩)) | refine WL.step rfl (StepTo.append 1 rfl rfl rfl rfl rfl rfl rfl rfl rfl rfl rfl rfl (by first | exact CellsAt.boxAll 0 rfl | exact CellsAt.boxAll 1 rfl | exact CellsAt.boxAll 2 rfl | exact CellsAt.boxAll 3 rfl | exact CellsAt.boxAll 4 rfl) rfl rfl (by omega) (fun _ _ => ⟨_, setQ, ?_⟩)) | refine WL.step rfl (StepTo.append 2 rfl rfl rfl rfl rfl rfl rfl rfl rfl rfl rfl rfl (by first | exact CellsAt.boxAll 0 rfl | exact CellsAt.boxAll 1 rfl | exact CellsAt.boxAll 2 rfl | exact CellsAt.boxAll 3 rfl | exact CellsAt.boxAll 4 rfl) rfl rfl (by omega) (fun _ _ => ⟨_, setQ, ?_⟩)) | refine WL.step rfl (StepTo.append 3 rfl rfl rfl rfl rfl rfl rfl rfl rfl rfl rfl rfl (by first | exact CellsAt.boxAll 0 rfl | exact CellsAt.boxAll 1 rfl | exact CellsAt.boxAll 2 rfl | exact CellsAt.boxAll 3 rfl | exact CellsAt.boxAll 4 rfl) rfl rfl (by omega) (fun _ _ => ⟨_, setQ, ?_⟩)) | refine WL.step rfl (StepTo.append 4 rfl rfl rfl rfl rfl rfl rfl rfl rfl rfl rfl rfl (by first | exact CellsAt.boxAll 0 rfl | exact CellsAt.boxAll 1 rfl | exact CellsAt.boxAll 2 rfl | exact CellsAt.boxAll 3 rfl | exact CellsAt.boxAll 4 rfl) rfl rfl (by omega) (fun _ _ => ⟨_, setQ, ?_⟩)) | refine WL.step rfl (StepTo.append 5 rfl rfl rfl rfl rfl rfl rfl rfl rfl rfl rfl rfl (by first | exact CellsAt.boxAll 0 rfl | exact CellsAt.boxAll 1 rfl | exact CellsAt.boxAll 2 rfl | exact CellsAt.boxAll 3 rfl | exact CellsAt.boxAll 4 rfl) rfl rfl (by omega) (fun _ _ => ⟨_, setQ, ?_⟩)) | refine WL.step rfl (StepTo.append 6 rfl rfl rfl rfl rfl rfl rfl rfl rfl rfl rfl rfl (by first | exact CellsAt.boxAll 0 rfl | exact CellsAt.boxAll 1 rfl | exact CellsAt.boxAll 2 rfl | exact CellsAt.boxAll 3 rfl | exact CellsAt.boxAll 4 rfl) rfl rfl (by omega) (fun _ _ => ⟨_, setQ, ?_⟩)))
    | ((with_reducible refine WL.isN_bslice ?_); first | refine WL.step rfl (StepTo.buildSlice rfl rfl rfl rfl rfl rfl rfl rfl rfl rfl cellsOfQ (fun _ => ?_)))
    | with_reducible refine WC.block ?_
    | (refine WC.cond rfl (fun hc => ?_) (fun hc => ?_) <;> (try first | (with_reducible replace hc := of_decide_eq_true hc) | (with_reducible replace hc := of_decide_eq_false hc) | (with_reducible replace hc := eqT hc) | (with_reducible replace hc := eqF hc) | (with_reducible replace hc := neT hc) | (with_reducible replace hc := neF hc) | (with_reducible replace hc := noT hc) | (with_reducible replace hc := noF hc)) <;> (try (exfalso; omega))))
  exact WQ.body (Reads.tmp rfl rfl) fun w' hw' => ⟨rfl, hw'.ext.below⟩
theorem rpadNeg_q (n : Int) (hn : n < 0) (w : World) : Calls Try.prog 43 #[.int .i64 n] w fun e w' => e = .returned (.string (bs [])) ∧ Below w.heap.size w w' := by
  have hg0 : decide (n < 0) = true := decide_eq_true hn
  refine enterW (fun _ => False) _ Try.func43 rfl (by simp only [Try.ntmps43, List.length_cons, List.length_nil, Nat.reduceAdd, Nat.reduceSub]; rfl) ?_
  repeat' (first
    | refine goS ?_
    | ((with_reducible refine WL.isN_bin ?_); first | refine WL.yld rfl binQ ?_)
    | ((with_reducible refine WL.isN_conv ?_); first | refine WL.yld rfl convQ ?_)
    | ((with_reducible refine WL.isN_call ?_); first | refine WL.yld rfl lenQ ?_ | refine WL.step rfl (StepTo.append 0 rfl rfl rfl rfl rfl rfl rfl rfl rfl rfl rfl rfl (by first | exact CellsAt.boxAll 0 rfl | exact CellsAt.boxAll 1 rfl | exact CellsAt.boxAll 2 rfl | exact CellsAt.boxAll 3 rfl | exact CellsAt.boxAll 4 rfl) rfl rfl (by omega) (fun _ _ => ⟨_, setQ, ?_⟩)) | refine WL.step rfl (StepTo.append 1 rfl rfl rfl rfl rfl rfl rfl rfl rfl rfl rfl rfl (by first | exact CellsAt.boxAll 0 rfl | exact CellsAt.boxAll 1 rfl | exact CellsAt.boxAll 2 rfl | exact CellsAt.boxAll 3 rfl | exact CellsAt.boxAll 4 rfl) rfl rfl (by omega) (fun _ _ => ⟨_, setQ, ?_⟩)) | refine WL.step rfl (StepTo.append 2 rfl rfl rfl rfl rfl rfl rfl rfl rfl rfl rfl rfl (by first | exact CellsAt.boxAll 0 rfl | exact CellsAt.boxAll 1 rfl | exact CellsAt.boxAll 2 rfl | exact CellsAt.boxAll 3 rfl | exact CellsAt.boxAll 4 rfl) rfl rfl (by omega) (fun _ _ => ⟨_, setQ, ?_⟩)) | refine WL.step rfl (StepTo.append 3 rfl rfl rfl rfl rfl rfl rfl rfl rfl rfl rfl rfl (by first | exact CellsAt.boxAll 0 rfl | exact CellsAt.boxAll 1 rfl | exact CellsAt.boxAll 2 rfl | exact CellsAt.boxAll 3 rfl | exact CellsAt.boxAll 4 rfl) rfl rfl (by omega) (fun _ _ => ⟨_, setQ, ?_⟩)) | refine WL.step rfl (StepTo.append 4 rfl rfl rfl rfl rfl rfl rfl rfl rfl rfl rfl rfl (by first | exact CellsAt.boxAll 0 rfl | exact CellsAt.boxAll 1 rfl | exact CellsAt.boxAll 2 rfl | exact CellsAt.boxAll 3 rfl | exact CellsAt.boxAll 4 rfl) rfl rfl (by omega) (fun _ _ => ⟨_, setQ, ?_⟩)) | refine WL.step rfl (StepTo.append 5 rfl rfl rfl rfl rfl rfl rfl rfl rfl rfl rfl rfl (by first | exact CellsAt.boxAll 0 rfl | exact CellsAt.boxAll 1 rfl | exact CellsAt.boxAll 2 rfl | exact CellsAt.boxAll 3 rfl | exact CellsAt.boxAll 4 rfl) rfl rfl (by omega) (fun _ _ => ⟨_, setQ, ?_⟩)) | refine WL.step rfl (StepTo.append 6 rfl rfl rfl rfl rfl rfl rfl rfl rfl rfl rfl rfl (by first | exact CellsAt.boxAll 0 rfl | exact CellsAt.boxAll 1 rfl | exact CellsAt.boxAll 2 rfl | exact CellsAt.boxAll 3 rfl | exact CellsAt.boxAll 4 rfl) rfl rfl (by omega) (fun _ _ => ⟨_, setQ, ?_⟩)))
    | ((with_reducible refine WL.isN_bslice ?_); first | refine WL.step rfl (StepTo.buildSlice rfl rfl rfl rfl rfl rfl rfl rfl rfl rfl cellsOfQ (fun _ => ?_)))
    | with_reducible refine WC.block ?_
    | (refine WC.cond rfl (fun hc => ?_) (fun hc => ?_) <;> (try first | (with_reducible replace hc := of_decide_eq_true hc) | (with_reducible replace hc := of_decide_eq_false hc) | (with_reducible replace hc := eqT hc) | (with_reducible replace hc := eqF hc) | (with_reducible replace hc := neT hc) | (with_reducible replace hc := neF hc) | (with_reducible replace hc := noT hc) | (with_reducible replace hc := noF hc)) <;> (try (exfalso; omega))))
  exact WQ.body (Reads.tmp rfl rfl) fun w' hw' => ⟨rfl, hw'.ext.below⟩
end Go.Proofs.Ytheilikelcgdmaa
