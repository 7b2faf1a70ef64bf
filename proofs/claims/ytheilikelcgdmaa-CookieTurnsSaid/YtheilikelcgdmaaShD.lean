/- The digest: what stands behind a text, of the program. -/
import Derived.Test.YtheilikelcgdmaaShA
import Derived.Test.YtheilikelcgdmaaRepL
namespace Go.Proofs.Ytheilikelcgdmaa
open Go.RowKit
open Go.Proofs.Ytheilikelcgdmaa.Sha
set_option linter.unusedVariables false
set_option maxRecDepth 100000

theorem bx : Builder.Extra Try.prog Ytheilikelcgdmaa.repL_ren where
  sizeBuilder := by kernel_rfl
  liesBuilder := by kernel_rfl
  t5 := Try.underlying5
  a5 := Try.isAgg5
  z5 := Try.sizeOf5
  v5 := Try.zeroValue5
  infoByte := by kernel_rfl
  cellsByte := by kernel_rfl
  sizeByte := by kernel_rfl
  neB5 := by decide
theorem repeatL_nought : ∀ n : Nat, Lib.repeatL [0] n = List.replicate n 0
  | 0 => rfl
  | n + 1 => by
    have := repeatL_nought n
    simp [Lib.repeatL, List.replicate_succ, this]
theorem repeat_q (n : Nat) (hn : n ≤ 100000) (w : World) : Calls Try.prog 56 #[.string (bs [0]), .int .i64 n] w fun e w' => e = .returned (.string (bs (List.replicate n 0))) ∧ Below w.heap.size w w' := by
  match n, hn with
  | 0, _ => exact (Any.strings_Repeat_zero (P := Try.prog) (ρ := Ytheilikelcgdmaa.repL_ren) Ytheilikelcgdmaa.repL (bs [0]) w).mono fun e w' ⟨h, h2⟩ => ⟨h, h2 ▸ Below.refl _ _⟩
  | 1, _ => exact (Any.strings_Repeat_one (P := Try.prog) (ρ := Ytheilikelcgdmaa.repL_ren) Ytheilikelcgdmaa.repL (bs [0]) w).mono fun e w' ⟨h, h2⟩ => ⟨h, h2 ▸ Below.refl _ _⟩
  | n + 2, hn =>
    refine (Any.strings_Repeat_main (P := Try.prog) (ρ := Ytheilikelcgdmaa.repL_ren) Ytheilikelcgdmaa.repL bx (bs [0]) (n + 2) w (by omega) (by omega) (by rw [bs_size]; simp; omega) (by rw [bs_size]; simp)).mono fun e w' ⟨h, h2⟩ => ⟨?_, h2⟩
    rw [h, bs_list, repeatL_nought]
    rfl
theorem be8_get (m : Nat) : ∀ i, i < 8 → (be8 m)[7 - i]? = some (UInt8.ofNat (m / 2 ^ (8 * i)))
  | 0, _ => by simp [be8]
  | 1, _ => rfl
  | 2, _ => rfl
  | 3, _ => rfl
  | 4, _ => rfl
  | 5, _ => rfl
  | 6, _ => rfl
  | 7, _ => rfl
  | i + 8, h => absurd h (by omega)
theorem be8_take (m i : Nat) (hi : i < 8) : (be8 m).take (8 - i) = (be8 m).take (8 - (i + 1)) ++ [UInt8.ofNat (m / 2 ^ (8 * i))] := by
  have := be8_get m i hi
  rw [show 8 - i = (7 - i) + 1 from by omega, take_snoc this, show 8 - (i + 1) = 7 - i from by omega]
theorem bldT_builder : BldT 83 := by unfold BldT; kernel_rfl

set_option maxHeartbeats 4000000 in
theorem pad_q (n : Nat) (hn : n ≤ 1099511627776) (w : World) : Calls Try.prog 49 #[.int .i64 n] w fun e w' => e = .returned (.string (bs (pad n))) ∧ Below w.heap.size w w' := by
  have hno : Value.int .i64 ((64 - ((n : Int) + 9) % 64) % 64) = .int .i64 ((noughts n : Nat) : Int) := by congr 1; unfold noughts; omega
  have hlt := noughts_lt n
  have h8 : Value.int .u64 (IntKind.u64.wrap ((n : Int) * 8)) = .int .u64 ((n * 8 : Nat) : Int) := by
    have : IntKind.u64.wrap ((n : Int) * 8) = (n : Int) * 8 := by rw [IntKind.wrap_u64]; omega
    rw [this]; congr 1
  have hc : Value.int .u64 (IntKind.u64.wrap (n : Int)) = .int .u64 (n : Int) := by
    have : IntKind.u64.wrap (n : Int) = (n : Int) := by rw [IntKind.wrap_u64]; omega
    rw [this]
  have hp : pad n = (128 :: List.replicate (noughts n) 0) ++ be8 (n * 8) := rfl
  rw [hp]
  clear hp
  have hll : (be8 (n * 8)).length = 8 := rfl
  generalize noughts n = nn at *
  have hg0 : decide ((n : Int) < 0) = false := decide_eq_false (by omega)
  refine enterW (fun _ => False) _ Try.func49 rfl (by simp only [Try.ntmps49, List.length_cons, List.length_nil, Nat.reduceAdd, Nat.reduceSub]; rfl) ?_
  refine WC.nilFz 5 1 ?_
  repeat' (first
    | refine goS ?_
    | ((with_reducible refine WL.isN_bin ?_); first | refine WL.yld rfl ((Yld.rem rfl rfl rfl rfl (by omega) (by omega)).as hno) ?_ | refine WL.yld rfl (Yld.rem rfl rfl rfl rfl (by omega) (by omega)) ?_ | refine WL.yld rfl (Yld.concatS (s := [128]) rfl rfl rfl (by simp; omega)) ?_ | refine WL.yld rfl binQ ?_)
    | ((with_reducible refine WL.isN_conv ?_); first | refine WL.yld rfl convQ ?_)
    | ((with_reducible refine WL.isN_call ?_); first | refine WL.step rfl (StepTo.callV (v := .string (bs (List.replicate nn 0))) (us := [.string (bs [0]), .int .i64 nn]) rfl rfl rfl rfl rfl (by kernel_rfl) (fun w hw => repeat_q nn (by omega) w) ?_) | refine WL.step rfl (StepTo.callP (us := [.pointer (some ⟨_, 0, none⟩), .string (bs (128 :: List.replicate nn 0))]) (HI := [.box _ 83 [.pointer none, .slice none ([] : List UInt8).length 0], .fz none ([] : List UInt8).length 0 5 1 (([] : List UInt8).map bv)]) [0, 1] [] ⟨by decide, rfl⟩ rfl ⟨by decide, rfl⟩ rfl rfl rfl rfl rfl rfl (by kernel_rfl) (fun w hw hS => bwrs_w _ 83 none none 0 [] (128 :: List.replicate nn 0) (.inl rfl) bldT_builder (fun _ => rfl) (by simp; omega) w hS) ?_))
    | ((with_reducible refine WL.isN_alloc ?_); first | refine WL.step rfl (StepTo.allocA rfl rfl rfl rfl (fun _ => ?_)) | refine WL.step rfl (StepTo.alloc1 rfl rfl rfl rfl rfl (fun _ => ?_)))
    | with_reducible refine WC.block ?_
    | (refine WC.cond rfl (fun hc => ?_) (fun hc => ?_) <;> (try first | (with_reducible replace hc := of_decide_eq_true hc) | (with_reducible replace hc := of_decide_eq_false hc) | (with_reducible replace hc := eqT hc) | (with_reducible replace hc := eqF hc) | (with_reducible replace hc := neT hc) | (with_reducible replace hc := neF hc) | (with_reducible replace hc := noT hc) | (with_reducible replace hc := noF hc)) <;> (try (exfalso; omega))))
  rename_i b4
  rintro v N ⟨rfl, A', c', hA', rfl⟩
  repeat' (first
    | refine goS ?_
    | ((with_reducible refine WL.isN_bin ?_); first | refine WL.yld rfl binQ ?_)
    | ((with_reducible refine WL.isN_conv ?_); first | refine WL.yld rfl convQ ?_)
    | ((with_reducible refine WL.isN_alloc ?_); first | refine WL.step rfl (StepTo.allocA rfl rfl rfl rfl (fun _ => ?_)) | refine WL.step rfl (StepTo.alloc1 rfl rfl rfl rfl rfl (fun _ => ?_)))
    | with_reducible refine WC.block ?_
    | (refine WC.cond rfl (fun hc => ?_) (fun hc => ?_) <;> (try first | (with_reducible replace hc := of_decide_eq_true hc) | (with_reducible replace hc := of_decide_eq_false hc) | (with_reducible replace hc := eqT hc) | (with_reducible replace hc := eqF hc) | (with_reducible replace hc := neT hc) | (with_reducible replace hc := neF hc) | (with_reducible replace hc := noT hc) | (with_reducible replace hc := noF hc)) <;> (try (exfalso; omega))))
  refine WC.loop (fun mm τ H => ∃ (q : Nat) (A : Option Addr) (c : Nat) (l : List UInt8), q ≤ 8 ∧ mm = q ∧ l = (128 :: List.replicate nn 0) ++ (be8 (n * 8)).take (8 - q) ∧ (l.length = 0 → A = none) ∧
      τ = [(0, .int .i64 n), (4, .pointer (some ⟨b4, 0, none⟩)), (5, .int .i64 ((q : Int) - 1))] ∧
      H = [.box b4 83 [.pointer (some ⟨b4, 0, none⟩), .slice A l.length c], .fz A l.length c 5 1 (l.map bv)])
    8 _ _ [0, 1] ?_ ?_ ⟨8, A', c', 128 :: List.replicate nn 0, by omega, rfl, by simp, hA', rfl, rfl⟩ ?_
  · exact (by repeat (first | exact Sub.nil | refine Sub.cons rfl ?_ | refine Sub.consE rfl (int_eq (by omega)) ?_))
  · exact ⟨by decide, rfl⟩
  rintro mm τ H ⟨q, A, c, l, hq, rfl, hl, hA, rfl, rfl⟩
  by_cases hq0 : 0 < mm
  · obtain ⟨i, rfl⟩ : ∃ i, mm = i + 1 := ⟨mm - 1, by omega⟩
    have hll2 : l.length ≤ 100 := by rw [hl]; simp; omega
    have hnx : (128 :: List.replicate nn 0) ++ (be8 (n * 8)).take (8 - i) = l ++ [UInt8.ofNat (n * 8 / 2 ^ (8 * i))] := by rw [hl, List.append_assoc, be8_take (n * 8) i (by omega)]
    have hmul : Value.int .i64 (IntKind.i64.wrap (8 * (((i + 1 : Nat) : Int) - 1))) = .int .i64 ((8 * i : Nat) : Int) := by rw [IntWalk.i64_in _ (by omega)]; congr 1; omega
    have hb : Nat.ble (8 * i) 64 = true := Nat.ble_eq_true_of_le (by omega)
    have hdv : Value.int .u64 (((n * 8 : Nat) : Int) / 2 ^ (8 * i)) = .int .u64 ((n * 8 / 2 ^ (8 * i) : Nat) : Int) := by congr 1
    have hg1 : decide ((((i + 1 : Nat) : Int) - 1) ≥ 0) = true := decide_eq_true (by omega)
    clear hl
    generalize n * 8 / 2 ^ (8 * i) = z at *
    repeat' (first
    | refine goS ?_
    | ((with_reducible refine WL.isN_bin ?_); first | refine WL.yld rfl (Yld.pure rfl h8) ?_ | refine WL.yld rfl (Yld.pure rfl hmul) ?_ | refine WL.yld rfl (Yld.shr (8 * i) rfl rfl rfl hb hdv) ?_ | refine WL.yld rfl binQ ?_)
    | ((with_reducible refine WL.isN_conv ?_); first | refine WL.yld rfl (Yld.convInt rfl rfl rfl rfl hc) ?_ | refine WL.yld rfl (Yld.convInt rfl rfl rfl rfl bOfN) ?_ | refine WL.yld rfl convQ ?_)
    | ((with_reducible refine WL.isN_call ?_); first | refine WL.step rfl (StepTo.callP (us := [.pointer (some ⟨b4, 0, none⟩), bv (UInt8.ofNat z)]) [0, 1] [] ⟨by decide, rfl⟩ rfl ⟨by decide, rfl⟩ rfl rfl rfl rfl rfl rfl (by kernel_rfl) (fun w hw hS => bwrb_w b4 83 (some ⟨b4, 0, none⟩) A c l (UInt8.ofNat z) (.inr rfl) bldT_builder hA (by omega) w hS) ?_))
    | ((with_reducible refine WL.isN_alloc ?_); first | refine WL.step rfl (StepTo.allocA rfl rfl rfl rfl (fun _ => ?_)) | refine WL.step rfl (StepTo.alloc1 rfl rfl rfl rfl rfl (fun _ => ?_)))
    | with_reducible refine WC.block ?_
    | (refine WC.cond rfl (fun hc => ?_) (fun hc => ?_) <;> (try first | (with_reducible replace hc := of_decide_eq_true hc) | (with_reducible replace hc := of_decide_eq_false hc) | (with_reducible replace hc := eqT hc) | (with_reducible replace hc := eqF hc) | (with_reducible replace hc := neT hc) | (with_reducible replace hc := neF hc) | (with_reducible replace hc := noT hc) | (with_reducible replace hc := noF hc)) <;> (try (exfalso; omega))))
    rintro v N ⟨rfl, A2, c2, hA2, rfl⟩
    repeat' (first
    | refine goS ?_
    | ((with_reducible refine WL.isN_bin ?_); first | refine WL.yld rfl binQ ?_)
    | ((with_reducible refine WL.isN_conv ?_); first | refine WL.yld rfl convQ ?_)
    | ((with_reducible refine WL.isN_alloc ?_); first | refine WL.step rfl (StepTo.allocA rfl rfl rfl rfl (fun _ => ?_)) | refine WL.step rfl (StepTo.alloc1 rfl rfl rfl rfl rfl (fun _ => ?_)))
    | with_reducible refine WC.block ?_
    | (refine WC.cond rfl (fun hc => ?_) (fun hc => ?_) <;> (try first | (with_reducible replace hc := of_decide_eq_true hc) | (with_reducible replace hc := of_decide_eq_false hc) | (with_reducible replace hc := eqT hc) | (with_reducible replace hc := eqF hc) | (with_reducible replace hc := neT hc) | (with_reducible replace hc := neF hc) | (with_reducible replace hc := noT hc) | (with_reducible replace hc := noF hc)) <;> (try (exfalso; omega))))
    exact WQ.rnd i _ _ [0, 1] (by repeat (first | exact Sub.nil | refine Sub.cons rfl ?_ | refine Sub.consE rfl (int_eq (by omega)) ?_)) ⟨by decide, rfl⟩ (by omega) ⟨i, A2, c2, l ++ [UInt8.ofNat z], by omega, rfl, hnx.symm, hA2, rfl, rfl⟩
  obtain rfl : mm = 0 := by omega
  have hl2 : l = (128 :: List.replicate nn 0) ++ be8 (n * 8) := by rw [hl, Nat.sub_zero, List.take_of_length_le (by omega)]
  rw [← hl2]
  clear hl hl2 hll
  have hg1 : decide (((0 : Nat) : Int) - 1 ≥ 0) = false := rfl
  repeat' (first
    | refine goS ?_
    | ((with_reducible refine WL.isN_bin ?_); first | refine WL.yld rfl binQ ?_)
    | ((with_reducible refine WL.isN_conv ?_); first | refine WL.yld rfl convQ ?_)
    | ((with_reducible refine WL.isN_call ?_); first | refine WL.step rfl (StepTo.callP (us := [.pointer (some ⟨b4, 0, none⟩)]) [0, 1] [] ⟨by decide, rfl⟩ rfl ⟨by decide, rfl⟩ rfl rfl rfl rfl rfl rfl (by kernel_rfl) (fun w hw hS => bstr_w b4 83 (some ⟨b4, 0, none⟩) A c l hA w hS) ?_))
    | ((with_reducible refine WL.isN_alloc ?_); first | refine WL.step rfl (StepTo.allocA rfl rfl rfl rfl (fun _ => ?_)) | refine WL.step rfl (StepTo.alloc1 rfl rfl rfl rfl rfl (fun _ => ?_)))
    | with_reducible refine WC.block ?_
    | (refine WC.cond rfl (fun hc => ?_) (fun hc => ?_) <;> (try first | (with_reducible replace hc := of_decide_eq_true hc) | (with_reducible replace hc := of_decide_eq_false hc) | (with_reducible replace hc := eqT hc) | (with_reducible replace hc := eqF hc) | (with_reducible replace hc := neT hc) | (with_reducible replace hc := neF hc) | (with_reducible replace hc := noT hc) | (with_reducible replace hc := noF hc)) <;> (try (exfalso; omega))))
  rintro v N ⟨rfl, rfl⟩
  repeat' (first
    | refine goS ?_
    | ((with_reducible refine WL.isN_bin ?_); first | refine WL.yld rfl binQ ?_)
    | ((with_reducible refine WL.isN_conv ?_); first | refine WL.yld rfl convQ ?_)
    | ((with_reducible refine WL.isN_alloc ?_); first | refine WL.step rfl (StepTo.allocA rfl rfl rfl rfl (fun _ => ?_)) | refine WL.step rfl (StepTo.alloc1 rfl rfl rfl rfl rfl (fun _ => ?_)))
    | with_reducible refine WC.block ?_
    | (refine WC.cond rfl (fun hc => ?_) (fun hc => ?_) <;> (try first | (with_reducible replace hc := of_decide_eq_true hc) | (with_reducible replace hc := of_decide_eq_false hc) | (with_reducible replace hc := eqT hc) | (with_reducible replace hc := eqF hc) | (with_reducible replace hc := neT hc) | (with_reducible replace hc := neF hc) | (with_reducible replace hc := noT hc) | (with_reducible replace hc := noF hc)) <;> (try (exfalso; omega))))
  exact WQ.body (Reads.tmp rfl rfl) fun w' hw' => ⟨rfl, hw'.ext.below⟩
theorem padNeg_q (n : Int) (hn : n < 0) (w : World) : Calls Try.prog 49 #[.int .i64 n] w fun e w' => e = .returned (.string (bs [])) ∧ Below w.heap.size w w' := by
  have hg0 : decide (n < 0) = true := decide_eq_true hn
  refine enterW (fun _ => False) _ Try.func49 rfl (by simp only [Try.ntmps49, List.length_cons, List.length_nil, Nat.reduceAdd, Nat.reduceSub]; rfl) ?_
  repeat' (first
    | refine goS ?_
    | ((with_reducible refine WL.isN_bin ?_); first | refine WL.yld rfl binQ ?_)
    | ((with_reducible refine WL.isN_conv ?_); first | refine WL.yld rfl convQ ?_)
    | ((with_reducible refine WL.isN_alloc ?_); first | refine WL.step rfl (StepTo.allocA rfl rfl rfl rfl (fun _ => ?_)) | refine WL.step rfl (StepTo.alloc1 rfl rfl rfl rfl rfl (fun _ => ?_)))
    | with_reducible refine WC.block ?_
    | (refine WC.cond rfl (fun hc => ?_) (fun hc => ?_) <;> (try first | (with_reducible replace hc := of_decide_eq_true hc) | (with_reducible replace hc := of_decide_eq_false hc) | (with_reducible replace hc := eqT hc) | (with_reducible replace hc := eqF hc) | (with_reducible replace hc := neT hc) | (with_reducible replace hc := neF hc) | (with_reducible replace hc := noT hc) | (with_reducible replace hc := noF hc)) <;> (try (exfalso; omega))))
  exact WQ.body (Reads.tmp rfl rfl) fun w' hw' => ⟨rfl, hw'.ext.below⟩
end Go.Proofs.Ytheilikelcgdmaa
