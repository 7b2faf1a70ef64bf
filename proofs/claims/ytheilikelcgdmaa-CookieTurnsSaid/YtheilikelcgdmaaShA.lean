/- The digest: turning words, the constants, the first registers. -/
import Derived.Test.YtheilikelcgdmaaBld
import Derived.Test.YtheilikelcgdmaaBox
import Derived.Test.YtheilikelcgdmaaShaF
namespace Go.Proofs.Ytheilikelcgdmaa
open Go.RowKit
open Go.Proofs.Ytheilikelcgdmaa.Sha
set_option linter.unusedVariables false
set_option maxRecDepth 100000

theorem neg_and : ∀ m : Fin 32, 0 < m.val → IntKind.u64.wrap (((BitVec.ofInt 64 (IntKind.u64.wrap (-(m.val : Int))) &&& BitVec.ofInt 64 31).toNat : Nat) : Int) = ((32 - m.val : Nat) : Int) := by decide
theorem rr_or (x : W) (m : Nat) (h1 : m < 32) : bits BinOp.or IntKind.u32 ((x.toNat : Int) * 2 ^ (32 - m) % 4294967296) ((x.toNat : Int) / 2 ^ (32 - (32 - m))) = ((rr x m).toNat : Int) := by
  have e1 : (x.toNat : Int) * 2 ^ (32 - m) % 4294967296 = ((x <<< (32 - m)).toNat : Int) := by
    rw [BitVec.toNat_shiftLeft, Nat.shiftLeft_eq]
    simp
  have e2 : (x.toNat : Int) / 2 ^ (32 - (32 - m)) = ((x >>> m).toNat : Int) := by
    rw [BitVec.toNat_ushiftRight, Nat.shiftRight_eq_div_pow, show 32 - (32 - m) = m from by omega]
    simp
  rw [e1, e2]
  have h := @wOr (x <<< (32 - m)) (x >>> m)
  injection h with _ h
  rw [show rr x m = x <<< (32 - m) ||| x >>> m from by unfold rr; rw [BitVec.or_comm]]
  exact h
theorem rot_e (x : W) (m : Nat) (h0 : 0 < m) (h1 : m < 32) (w : World) : Calls Try.prog 65 #[wv x, .int .i64 (-(m : Int))] w fun e w' => e = .returned (wv (rr x m)) ∧ w' = w := by
  have hk : bits BinOp.and IntKind.u64 (IntKind.u64.wrap (-(m : Int))) 31 = ((32 - m : Nat) : Int) := neg_and ⟨m, h1⟩ h0
  go_enter Try.func65, Try.ntmps65
  go_wp2
  go_ret
  exact ⟨by rw [rr_or x m h1]; rfl, rfl⟩
theorem turn_e (x : W) (m : Nat) (h0 : 0 < m) (h1 : m < 32) (w : World) : Calls Try.prog 60 #[wv x, .int .i64 (m : Int)] w fun e w' => e = .returned (wv (rr x m)) ∧ w' = w := by
  have hk : IntKind.i64.wrap (-(m : Int)) = -(m : Int) := IntWalk.i64_in _ (by omega)
  go_enter Try.func60, Try.ntmps60
  go_wp2_with (go_at_call 65; refine (rot_e x m h0 h1 _).mono ?_; rintro e w' ⟨rfl, rfl⟩)
  go_ret
  exact ⟨rfl, rfl⟩
theorem turn_q (x : W) (m : Nat) (h0 : 0 < m) (h1 : m < 32) (w : World) : Calls Try.prog 60 #[wv x, .int .i64 (m : Int)] w fun e w' => e = .returned (wv (rr x m)) ∧ Below w.heap.size w w' :=
  (turn_e x m h0 h1 w).mono fun e w' ⟨h, h2⟩ => ⟨h, h2 ▸ Below.refl _ _⟩
def wds (l : List W) : List Value := l.map wv
theorem wds_len (l : List W) : (wds l).length = l.length := by simp [wds]
theorem wds_get {l : List W} {i : Nat} {x : W} (h : l[i]? = some x) : (wds l)[i]? = some (wv x) := by simp [wds, h]
theorem wds_set {l : List W} {i : Nat} {x : W} : (wds l).set i (wv x) = wds (l.set i x) := by simp [wds, List.map_set]
theorem wds_one (l : List W) : ∀ u ∈ wds l, u.oneCell' = true := by
  intro u hu
  obtain ⟨c, _, rfl⟩ := List.mem_map.1 hu
  rfl
theorem right_q (x : W) (m : Nat) (h0 : 0 < m) (h1 : m < 32) (w : World) : Calls Try.prog 54 #[wv x, .int .i64 (m : Int)] w fun e w' => e = .returned (wv (rr x m)) ∧ Below w.heap.size w w' := by
  have hs : Value.int .i64 (IntKind.i64.wrap (32 - (m : Int))) = .int .i64 ((32 - m : Nat) : Int) := by rw [IntWalk.i64_in _ (by omega)]; congr 1; omega
  have hb1 : Nat.ble m 32 = true := Nat.ble_eq_true_of_le (by omega)
  have hb2 : Nat.ble (32 - m) 32 = true := Nat.ble_eq_true_of_le (by omega)
  refine enterW (fun _ => False) _ Try.func54 rfl (by simp only [Try.ntmps54, List.length_cons, List.length_nil, Nat.reduceAdd, Nat.reduceSub]; rfl) ?_
  repeat' (first
    | refine goS ?_
    | ((with_reducible refine WL.isN_bin ?_); first | refine WL.yld rfl (Yld.shrW rfl rfl rfl rfl hb1) ?_ | refine WL.yld rfl (Yld.shlW rfl rfl rfl rfl hb2) ?_ | refine WL.yld rfl (Yld.pure rfl hs) ?_ | refine WL.yld rfl (Yld.pure rfl wOr) ?_ | refine WL.yld rfl binQ ?_)
    | ((with_reducible refine WK.isN_bin ?_); first | refine WK.yld rfl (Yld.shrW rfl rfl rfl rfl hb1) ?_ | refine WK.yld rfl (Yld.shlW rfl rfl rfl rfl hb2) ?_ | refine WK.yld rfl (Yld.pure rfl hs) ?_ | refine WK.yld rfl (Yld.pure rfl wOr) ?_ | refine WK.yld rfl binQ ?_)
    | with_reducible refine WC.block ?_
    | (refine WC.quiet (i := 1) (by kernel_rfl) (by kernel_rfl) ?_)
    | (refine WC.cond rfl (fun hc => ?_) (fun hc => ?_) <;> (try first | (with_reducible replace hc := of_decide_eq_true hc) | (with_reducible replace hc := of_decide_eq_false hc) | (with_reducible replace hc := eqT hc) | (with_reducible replace hc := eqF hc) | (with_reducible replace hc := neT hc) | (with_reducible replace hc := neF hc) | (with_reducible replace hc := noT hc) | (with_reducible replace hc := noF hc)) <;> (try (exfalso; omega))))
  exact WQ.body (Reads.tmp rfl rfl) fun w' hw' => ⟨rfl, hw'.ext.below⟩
def K0 : List W := [0x6a09e667#32, 0xbb67ae85#32, 0x3c6ef372#32, 0xa54ff53a#32, 0x510e527f#32, 0x9b05688c#32, 0x1f83d9ab#32, 0x5be0cd19#32]
theorem first_q (w : World) : Calls Try.prog 47 #[] w fun e w' => e = .returned (.agg (wds K0).toArray) ∧ Below w.heap.size w w' := by
  refine enterW (fun _ => False) _ Try.func47 rfl (by simp only [Try.ntmps47, List.length_cons, List.length_nil, Nat.reduceAdd, Nat.reduceSub]; rfl) ?_
  repeat' (first
    | refine goS ?_
    | ((with_reducible refine WL.isN_build ?_); first | refine WL.yld rfl (Yld.build (cells := (wds K0).toArray) rfl rfl (by kernel_rfl)) ?_ | refine WL.yld rfl buildQ ?_)
    | ((with_reducible refine WL.isN_alloc ?_); first | refine WL.step rfl (StepTo.allocA rfl rfl rfl rfl (fun _ => ?_)) | refine WL.step rfl (StepTo.alloc1 rfl rfl rfl rfl rfl (fun _ => ?_)))
    | ((with_reducible refine WL.isN_store ?_); first | refine WL.step rfl (StepTo.stBA 0 rfl rfl rfl rfl rfl (wds_one _) rfl rfl rfl setQ ?_) | refine WL.step rfl (StepTo.st1 rfl rfl rfl rfl rfl rfl ?_) | refine WL.step rfl (StepTo.stA rfl rfl rfl rfl rfl rfl rfl ?_) | refine WL.step rfl (StepTo.stR rfl rfl rfl rfl rfl rfl rfl ?_))
    | with_reducible refine WC.block ?_
    | (refine WC.cond rfl (fun hc => ?_) (fun hc => ?_) <;> (try first | (with_reducible replace hc := of_decide_eq_true hc) | (with_reducible replace hc := of_decide_eq_false hc) | (with_reducible replace hc := eqT hc) | (with_reducible replace hc := eqF hc) | (with_reducible replace hc := neT hc) | (with_reducible replace hc := neF hc) | (with_reducible replace hc := noT hc) | (with_reducible replace hc := noF hc)) <;> (try (exfalso; omega))))
  exact WQ.body (Reads.one rfl (Res1.cellA rfl rfl rfl rfl (AggAt.boxAll 0 rfl rfl))) fun w' hw' => ⟨rfl, hw'.ext.below⟩
theorem constants_q (w : World) : Calls Try.prog 59 #[] w fun e w' => e = .returned (.agg (wds K).toArray) ∧ Below w.heap.size w w' := by
  refine enterW (fun _ => False) _ Try.func59 rfl (by simp only [Try.ntmps59, List.length_cons, List.length_nil, Nat.reduceAdd, Nat.reduceSub]; rfl) ?_
  repeat' (first
    | refine goS ?_
    | ((with_reducible refine WL.isN_build ?_); first | refine WL.yld rfl (Yld.build (cells := (wds K).toArray) rfl rfl (by kernel_rfl)) ?_ | refine WL.yld rfl buildQ ?_)
    | ((with_reducible refine WL.isN_alloc ?_); first | refine WL.step rfl (StepTo.allocA rfl rfl rfl rfl (fun _ => ?_)) | refine WL.step rfl (StepTo.alloc1 rfl rfl rfl rfl rfl (fun _ => ?_)))
    | ((with_reducible refine WL.isN_store ?_); first | refine WL.step rfl (StepTo.stBA 0 rfl rfl rfl rfl rfl (wds_one _) rfl rfl rfl setQ ?_) | refine WL.step rfl (StepTo.st1 rfl rfl rfl rfl rfl rfl ?_) | refine WL.step rfl (StepTo.stA rfl rfl rfl rfl rfl rfl rfl ?_) | refine WL.step rfl (StepTo.stR rfl rfl rfl rfl rfl rfl rfl ?_))
    | with_reducible refine WC.block ?_
    | (refine WC.cond rfl (fun hc => ?_) (fun hc => ?_) <;> (try first | (with_reducible replace hc := of_decide_eq_true hc) | (with_reducible replace hc := of_decide_eq_false hc) | (with_reducible replace hc := eqT hc) | (with_reducible replace hc := eqF hc) | (with_reducible replace hc := neT hc) | (with_reducible replace hc := neF hc) | (with_reducible replace hc := noT hc) | (with_reducible replace hc := noF hc)) <;> (try (exfalso; omega))))
  exact WQ.body (Reads.one rfl (Res1.cellA rfl rfl rfl rfl (AggAt.boxAll 0 rfl rfl))) fun w' hw' => ⟨rfl, hw'.ext.below⟩
end Go.Proofs.Ytheilikelcgdmaa
