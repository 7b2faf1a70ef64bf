/- Of two numbers one is ahead of the other one: the law SerialTurns. -/
import Derived.Test.YtgamndfgcbapgaaSerA
namespace Go.Proofs.Ytgamndfgcbapgaa
open Go.RowKit
open Go.Proofs.Ytgamndfgcbapgaa.Ser
set_option linter.unusedVariables false
set_option maxRecDepth 100000

structure Trn (a b n m : Int) : Prop where
  lo : -2147483648 ≤ n
  hi : n ≤ 2147483647
  lo2 : -2147483648 ≤ m
  hi2 : m ≤ 2147483647
  back : (a + n % 4294967296) % 4294967296 = b
  far : n = -2147483648 → m = n
  near : n ≠ -2147483648 → m = -n
  zero : n = 0 ↔ a = b
theorem trn (a b : Int) (ha : RU a) (hb : RU b) : Trn a b (sd32 (b - a)) (sd32 (a - b)) := by
  unfold RU at *
  rw [sd32_eq, sd32_eq]
  constructor <;> omega
theorem sd32_self (a : Int) : sd32 (a - a) = 0 := by rw [sd32_eq]; omega
theorem trn6 (c d : Int) (hc : RU6 c) (hd : RU6 d) : -32768 ≤ sd16 (d - c) ∧ sd16 (d - c) < 32768 ∧ (c + sd16 (d - c) % 65536) % 65536 = d := by
  unfold RU6 at *
  rw [sd16_eq]
  omega
theorem boolT {p q : Bool} (h : p = q) : (p == q) = true := by simp [h]
theorem later_pos {a b : Int} (h : 0 < sd32 (b - a)) : laterF a b = b := by unfold laterF; rw [if_pos h]
theorem later_neg {a b : Int} (h : ¬ 0 < sd32 (b - a)) : laterF a b = a := by unfold laterF; rw [if_neg h]

set_option maxHeartbeats 4000000 in
theorem serialTurns_walk (a b c d : Int) (w : World) (w0 : (Lit.int .u32 a).wf = true) (w1 : (Lit.int .u32 b).wf = true) (w2 : (Lit.int .u16 c).wf = true) (w3 : (Lit.int .u16 d).wf = true) :
    Calls Try.prog 9 #[.int .u32 a, .int .u32 b, .int .u16 c, .int .u16 d] w fun e w' => e = .returned (.bool true) ∧ Below w.heap.size w w' := by
  have hT := trn a b (ru_wf w0) (ru_wf w1)
  obtain ⟨k0, k1, k2⟩ := trn6 c d (ru6_wf w2) (ru6_wf w3)
  have q1 := fun w => Before_q a b w
  have q2 := fun w => Dist_q a b w
  have r1 := fun w => Before_q b a w
  have r2 := fun w => Dist_q b a w
  have qa := fun w => Before_q a a w
  have qb := fun w => Before_q b b w
  rw [sd32_self] at qa qb
  have q3 := fun w => later_q a b w
  have q4 := fun w => Before16_q c d w
  have q5 := fun w => Dist16_q c d w
  have l1 := @later_pos a b
  have l2 := @later_neg a b
  generalize sd32 (b - a) = n at *
  generalize sd32 (a - b) = m at *
  generalize sd16 (d - c) = k at *
  clear w0 w1 w2 w3
  obtain ⟨nlo, nhi, mlo, mhi, back, far, near, zero⟩ := hT
  have gk : ((c + k % 65536) % 65536 == d) = true := beqT k2
  have gk1 : (decide (0 < k) == decide (k > 0)) = true := boolT rfl
  have gb : ((a + n % 4294967296) % 4294967296 == b) = true := beqT back
  have g1 : (decide (0 < n) == decide (n > 0)) = true := boolT rfl
  have gz : ((n == 0) == (a == b)) = true := by
    refine boolT ?_
    by_cases h : n = 0
    · rw [beqT h, beqT (zero.1 h)]
    · rw [beqF h, beqF (fun e => h (zero.2 e))]
  by_cases hfar : n = -2147483648
  · have gm : (m == n) = true := beqT (far hfar)
    have g2 : (decide (0 < m) == !(n == -2147483648)) = true := boolT (by rw [far hfar, hfar]; rfl)
    have hl := l2 (by omega)
    rw [hl] at q3
    have hnf : decide (0 < (0 : Int)) = false := rfl
    have hn : (!(decide (0 < (0 : Int)))) = true := rfl
    have ga : (a == a) = true := beqT rfl
    refine enterW (fun _ => False) _ Try.func9 rfl (by simp only [Try.ntmps9, List.length_cons, List.length_nil, Nat.reduceAdd, Nat.reduceSub]; rfl) ?_
    repeat' (first
    | with_reducible refine WL.nil ?_
    | with_reducible refine WQ.thenN ?_
    | with_reducible refine WQ.code ?_
    | with_reducible refine WC.seq ?_
    | with_reducible refine WC.region ?_
    | ((with_reducible refine WL.isN_move ?_); first | refine WL.yld rfl (Yld.pure rfl nrmQ) ?_)
    | ((with_reducible refine WL.isN_assign ?_); first | refine WL.yld rfl (Yld.pure rfl nrmQ) ?_)
    | ((with_reducible refine WL.isN_bin ?_); first | refine WL.yld rfl (Yld.eqlB rfl rfl rfl rfl) ?_ | refine WL.yld rfl (Yld.pure rfl nrmQ) ?_ | refine WL.yld rfl (Yld.rem rfl rfl rfl rfl (by omega) (by omega)) ?_ | refine WL.yld rfl (Yld.quo rfl rfl rfl rfl (by omega) (by omega) nrmQ) ?_ | refine WL.yld rfl (Yld.eqlB rfl rfl rfl rfl) ?_ | refine WL.yld rfl (Yld.neqB rfl rfl rfl rfl) ?_ | refine WL.yld rfl (Yld.eqlA 4 rfl rfl rfl (by kernel_rfl) (by kernel_rfl) rfl rfl) ?_ | refine WL.yld rfl (Yld.neqA 4 rfl rfl rfl (by kernel_rfl) (by kernel_rfl) rfl rfl) ?_ | refine WL.yld rfl (Yld.quoT rfl rfl rfl rfl (by omega) nrmQ) ?_)
    | ((with_reducible refine WL.isN_un ?_); first | refine WL.yld rfl (Yld.pure rfl nrmQ) ?_)
    | ((with_reducible refine WL.isN_conv ?_); first | refine WL.yld rfl (Yld.convInt rfl rfl rfl rfl nrmQ) ?_)
    | ((with_reducible refine WL.isN_pick ?_); first | refine WL.yld rfl (Yld.pickT rfl rfl rfl) ?_ | refine WL.yld rfl (Yld.pickF rfl rfl rfl) ?_ | refine WL.yld rfl (Yld.pickTh rfl rfl gdQ rfl) ?_ | refine WL.yld rfl (Yld.pickFh rfl rfl gdQ rfl) ?_ | refine WL.yld rfl (Yld.pickB rfl rfl rfl rfl) ?_)
    | ((with_reducible refine WL.isN_call ?_); first | refine WL.step rfl (StepTo.callV (v := .bool true) (us := []) rfl rfl rfl rfl rfl (by kernel_rfl) (fun w _ => shown_q w) ?_) | refine WL.step rfl (StepTo.callV (v := .bool (decide (0 < n))) (us := [.int .u32 a, .int .u32 b]) rfl rfl rfl rfl rfl (by kernel_rfl) (fun w _ => q1 w) ?_) | refine WL.step rfl (StepTo.callV (v := .int .i64 n) (us := [.int .u32 a, .int .u32 b]) rfl rfl rfl rfl rfl (by kernel_rfl) (fun w _ => q2 w) ?_) | refine WL.step rfl (StepTo.callV (v := .bool (decide (0 < m))) (us := [.int .u32 b, .int .u32 a]) rfl rfl rfl rfl rfl (by kernel_rfl) (fun w _ => r1 w) ?_) | refine WL.step rfl (StepTo.callV (v := .int .i64 m) (us := [.int .u32 b, .int .u32 a]) rfl rfl rfl rfl rfl (by kernel_rfl) (fun w _ => r2 w) ?_) | refine WL.step rfl (StepTo.callV (v := .int .u32 a) (us := [.int .u32 a, .int .u32 b]) rfl rfl rfl rfl rfl (by kernel_rfl) (fun w _ => q3 w) ?_) | refine WL.step rfl (StepTo.callV (v := .bool (decide (0 < (0 : Int)))) (us := [.int .u32 a, .int .u32 a]) rfl rfl rfl rfl rfl (by kernel_rfl) (fun w _ => qa w) ?_) | refine WL.step rfl (StepTo.callV (v := .bool (decide (0 < k))) (us := [.int .u16 c, .int .u16 d]) rfl rfl rfl rfl rfl (by kernel_rfl) (fun w _ => q4 w) ?_) | refine WL.step rfl (StepTo.callV (v := .int .i64 k) (us := [.int .u16 c, .int .u16 d]) rfl rfl rfl rfl rfl (by kernel_rfl) (fun w _ => q5 w) ?_))
    | ((with_reducible refine WL.isT ?_); first | refine WL.skipT rfl rfl rfl rfl gdQ ?_ | refine WL.skipU rfl rfl rfl rfl ?_ | refine WL.runT rfl rfl rfl gdQ ?_)
    | ((with_reducible refine WL.isF ?_); first | refine WL.skipF rfl rfl rfl rfl gdQ ?_ | refine WL.skipU rfl rfl rfl rfl ?_ | refine WL.runF rfl rfl rfl gdQ ?_)
    | with_reducible refine WC.block ?_
    | with_reducible refine WC.scope ?_
    | with_reducible refine WC.label ?_
    | with_reducible refine WQ.ngN ?_
    | with_reducible refine WQ.ngR ?_
    | with_reducible refine WQ.ngX ?_
    | with_reducible refine WC.skip ?_
    | with_reducible refine WC.ret ?_
    | with_reducible refine WC.exit ?_
    | with_reducible refine WQ.thenR ?_
    | with_reducible refine WQ.thenX ?_
    | with_reducible refine WQ.blkN ?_
    | with_reducible refine WQ.blkR ?_
    | ((with_reducible refine WQ.blkX ?_ ?_); focus rfl)
    | ((with_reducible refine WQ.blkY ?_ ?_); focus rfl)
    | refine WC.condT rfl ?_
    | refine WC.condF rfl ?_
    | refine WC.condTh rfl gdQ ?_
    | refine WC.condFh rfl gdQ ?_
    | (refine WC.cond rfl (fun hc => ?_) (fun hc => ?_) <;> (try first | (with_reducible replace hc := of_decide_eq_true hc) | (with_reducible replace hc := of_decide_eq_false hc) | (with_reducible replace hc := eqT hc) | (with_reducible replace hc := eqF hc) | (with_reducible replace hc := neT hc) | (with_reducible replace hc := neF hc) | (with_reducible replace hc := noT hc) | (with_reducible replace hc := noF hc)) <;> (try (exfalso; omega))))
    exact WQ.body (Reads.tmp rfl rfl) fun w' hw' => ⟨by rfl, hw'.ext.below⟩
  have hm := near hfar
  have gm : (m == -n) = true := beqT hm
  have gf : (n == -2147483648) = false := beqF hfar
  have hnf : (!(decide (0 < (0 : Int)))) = true := rfl
  have gaa : (a == a) = true := beqT rfl
  have gbb : (b == b) = true := beqT rfl
  by_cases hneg : n < 0
  · have g2 : (decide (0 < m) == !(n == -2147483648)) = true := boolT (by rw [gf, decide_eq_true (by omega)]; rfl)
    have hl := l2 (by omega)
    rw [hl] at q3
    have hq : (!(decide (0 < n))) = true := by rw [decide_eq_false (by omega)]; rfl
    refine enterW (fun _ => False) _ Try.func9 rfl (by simp only [Try.ntmps9, List.length_cons, List.length_nil, Nat.reduceAdd, Nat.reduceSub]; rfl) ?_
    repeat' (first
    | with_reducible refine WL.nil ?_
    | with_reducible refine WQ.thenN ?_
    | with_reducible refine WQ.code ?_
    | with_reducible refine WC.seq ?_
    | with_reducible refine WC.region ?_
    | ((with_reducible refine WL.isN_move ?_); first | refine WL.yld rfl (Yld.pure rfl nrmQ) ?_)
    | ((with_reducible refine WL.isN_assign ?_); first | refine WL.yld rfl (Yld.pure rfl nrmQ) ?_)
    | ((with_reducible refine WL.isN_bin ?_); first | refine WL.yld rfl (Yld.eqlB rfl rfl rfl rfl) ?_ | refine WL.yld rfl (Yld.pure rfl nrmQ) ?_ | refine WL.yld rfl (Yld.rem rfl rfl rfl rfl (by omega) (by omega)) ?_ | refine WL.yld rfl (Yld.quo rfl rfl rfl rfl (by omega) (by omega) nrmQ) ?_ | refine WL.yld rfl (Yld.eqlB rfl rfl rfl rfl) ?_ | refine WL.yld rfl (Yld.neqB rfl rfl rfl rfl) ?_ | refine WL.yld rfl (Yld.eqlA 4 rfl rfl rfl (by kernel_rfl) (by kernel_rfl) rfl rfl) ?_ | refine WL.yld rfl (Yld.neqA 4 rfl rfl rfl (by kernel_rfl) (by kernel_rfl) rfl rfl) ?_ | refine WL.yld rfl (Yld.quoT rfl rfl rfl rfl (by omega) nrmQ) ?_)
    | ((with_reducible refine WL.isN_un ?_); first | refine WL.yld rfl (Yld.pure rfl nrmQ) ?_)
    | ((with_reducible refine WL.isN_conv ?_); first | refine WL.yld rfl (Yld.convInt rfl rfl rfl rfl nrmQ) ?_)
    | ((with_reducible refine WL.isN_pick ?_); first | refine WL.yld rfl (Yld.pickT rfl rfl rfl) ?_ | refine WL.yld rfl (Yld.pickF rfl rfl rfl) ?_ | refine WL.yld rfl (Yld.pickTh rfl rfl gdQ rfl) ?_ | refine WL.yld rfl (Yld.pickFh rfl rfl gdQ rfl) ?_ | refine WL.yld rfl (Yld.pickB rfl rfl rfl rfl) ?_)
    | ((with_reducible refine WL.isN_call ?_); first | refine WL.step rfl (StepTo.callV (v := .bool true) (us := []) rfl rfl rfl rfl rfl (by kernel_rfl) (fun w _ => shown_q w) ?_) | refine WL.step rfl (StepTo.callV (v := .bool (decide (0 < n))) (us := [.int .u32 a, .int .u32 b]) rfl rfl rfl rfl rfl (by kernel_rfl) (fun w _ => q1 w) ?_) | refine WL.step rfl (StepTo.callV (v := .int .i64 n) (us := [.int .u32 a, .int .u32 b]) rfl rfl rfl rfl rfl (by kernel_rfl) (fun w _ => q2 w) ?_) | refine WL.step rfl (StepTo.callV (v := .bool (decide (0 < m))) (us := [.int .u32 b, .int .u32 a]) rfl rfl rfl rfl rfl (by kernel_rfl) (fun w _ => r1 w) ?_) | refine WL.step rfl (StepTo.callV (v := .int .i64 m) (us := [.int .u32 b, .int .u32 a]) rfl rfl rfl rfl rfl (by kernel_rfl) (fun w _ => r2 w) ?_) | refine WL.step rfl (StepTo.callV (v := .int .u32 a) (us := [.int .u32 a, .int .u32 b]) rfl rfl rfl rfl rfl (by kernel_rfl) (fun w _ => q3 w) ?_) | refine WL.step rfl (StepTo.callV (v := .bool (decide (0 < (0 : Int)))) (us := [.int .u32 a, .int .u32 a]) rfl rfl rfl rfl rfl (by kernel_rfl) (fun w _ => qa w) ?_) | refine WL.step rfl (StepTo.callV (v := .bool (decide (0 < k))) (us := [.int .u16 c, .int .u16 d]) rfl rfl rfl rfl rfl (by kernel_rfl) (fun w _ => q4 w) ?_) | refine WL.step rfl (StepTo.callV (v := .int .i64 k) (us := [.int .u16 c, .int .u16 d]) rfl rfl rfl rfl rfl (by kernel_rfl) (fun w _ => q5 w) ?_) | refine WL.step rfl (StepTo.callV (v := .bool (decide (0 < (0 : Int)))) (us := [.int .u32 b, .int .u32 b]) rfl rfl rfl rfl rfl (by kernel_rfl) (fun w _ => qb w) ?_))
    | ((with_reducible refine WL.isT ?_); first | refine WL.skipT rfl rfl rfl rfl gdQ ?_ | refine WL.skipU rfl rfl rfl rfl ?_ | refine WL.runT rfl rfl rfl gdQ ?_)
    | ((with_reducible refine WL.isF ?_); first | refine WL.skipF rfl rfl rfl rfl gdQ ?_ | refine WL.skipU rfl rfl rfl rfl ?_ | refine WL.runF rfl rfl rfl gdQ ?_)
    | with_reducible refine WC.block ?_
    | with_reducible refine WC.scope ?_
    | with_reducible refine WC.label ?_
    | with_reducible refine WQ.ngN ?_
    | with_reducible refine WQ.ngR ?_
    | with_reducible refine WQ.ngX ?_
    | with_reducible refine WC.skip ?_
    | with_reducible refine WC.ret ?_
    | with_reducible refine WC.exit ?_
    | with_reducible refine WQ.thenR ?_
    | with_reducible refine WQ.thenX ?_
    | with_reducible refine WQ.blkN ?_
    | with_reducible refine WQ.blkR ?_
    | ((with_reducible refine WQ.blkX ?_ ?_); focus rfl)
    | ((with_reducible refine WQ.blkY ?_ ?_); focus rfl)
    | refine WC.condT rfl ?_
    | refine WC.condF rfl ?_
    | refine WC.condTh rfl gdQ ?_
    | refine WC.condFh rfl gdQ ?_
    | (refine WC.cond rfl (fun hc => ?_) (fun hc => ?_) <;> (try first | (with_reducible replace hc := of_decide_eq_true hc) | (with_reducible replace hc := of_decide_eq_false hc) | (with_reducible replace hc := eqT hc) | (with_reducible replace hc := eqF hc) | (with_reducible replace hc := neT hc) | (with_reducible replace hc := neF hc) | (with_reducible replace hc := noT hc) | (with_reducible replace hc := noF hc)) <;> (try (exfalso; omega))))
    exact WQ.body (Reads.tmp rfl rfl) fun w' hw' => ⟨by first | rfl | simp [hq], hw'.ext.below⟩
  have g2 : (decide (0 < m) == false) = true := boolT (decide_eq_false (by omega))
  by_cases hz : n = 0
  · have hab := zero.1 hz
    have hl := l2 (by omega)
    rw [hl] at q3
    have hq : (!(decide (0 < n))) = true := by rw [decide_eq_false (by omega)]; rfl
    refine enterW (fun _ => False) _ Try.func9 rfl (by simp only [Try.ntmps9, List.length_cons, List.length_nil, Nat.reduceAdd, Nat.reduceSub]; rfl) ?_
    repeat' (first
    | with_reducible refine WL.nil ?_
    | with_reducible refine WQ.thenN ?_
    | with_reducible refine WQ.code ?_
    | with_reducible refine WC.seq ?_
    | with_reducible refine WC.region ?_
    | ((with_reducible refine WL.isN_move ?_); first | refine WL.yld rfl (Yld.pure rfl nrmQ) ?_)
    | ((with_reducible refine WL.isN_assign ?_); first | refine WL.yld rfl (Yld.pure rfl nrmQ) ?_)
    | ((with_reducible refine WL.isN_bin ?_); first | refine WL.yld rfl (Yld.eqlB rfl rfl rfl rfl) ?_ | refine WL.yld rfl (Yld.pure rfl nrmQ) ?_ | refine WL.yld rfl (Yld.rem rfl rfl rfl rfl (by omega) (by omega)) ?_ | refine WL.yld rfl (Yld.quo rfl rfl rfl rfl (by omega) (by omega) nrmQ) ?_ | refine WL.yld rfl (Yld.eqlB rfl rfl rfl rfl) ?_ | refine WL.yld rfl (Yld.neqB rfl rfl rfl rfl) ?_ | refine WL.yld rfl (Yld.eqlA 4 rfl rfl rfl (by kernel_rfl) (by kernel_rfl) rfl rfl) ?_ | refine WL.yld rfl (Yld.neqA 4 rfl rfl rfl (by kernel_rfl) (by kernel_rfl) rfl rfl) ?_ | refine WL.yld rfl (Yld.quoT rfl rfl rfl rfl (by omega) nrmQ) ?_)
    | ((with_reducible refine WL.isN_un ?_); first | refine WL.yld rfl (Yld.pure rfl nrmQ) ?_)
    | ((with_reducible refine WL.isN_conv ?_); first | refine WL.yld rfl (Yld.convInt rfl rfl rfl rfl nrmQ) ?_)
    | ((with_reducible refine WL.isN_pick ?_); first | refine WL.yld rfl (Yld.pickT rfl rfl rfl) ?_ | refine WL.yld rfl (Yld.pickF rfl rfl rfl) ?_ | refine WL.yld rfl (Yld.pickTh rfl rfl gdQ rfl) ?_ | refine WL.yld rfl (Yld.pickFh rfl rfl gdQ rfl) ?_ | refine WL.yld rfl (Yld.pickB rfl rfl rfl rfl) ?_)
    | ((with_reducible refine WL.isN_call ?_); first | refine WL.step rfl (StepTo.callV (v := .bool true) (us := []) rfl rfl rfl rfl rfl (by kernel_rfl) (fun w _ => shown_q w) ?_) | refine WL.step rfl (StepTo.callV (v := .bool (decide (0 < n))) (us := [.int .u32 a, .int .u32 b]) rfl rfl rfl rfl rfl (by kernel_rfl) (fun w _ => q1 w) ?_) | refine WL.step rfl (StepTo.callV (v := .int .i64 n) (us := [.int .u32 a, .int .u32 b]) rfl rfl rfl rfl rfl (by kernel_rfl) (fun w _ => q2 w) ?_) | refine WL.step rfl (StepTo.callV (v := .bool (decide (0 < m))) (us := [.int .u32 b, .int .u32 a]) rfl rfl rfl rfl rfl (by kernel_rfl) (fun w _ => r1 w) ?_) | refine WL.step rfl (StepTo.callV (v := .int .i64 m) (us := [.int .u32 b, .int .u32 a]) rfl rfl rfl rfl rfl (by kernel_rfl) (fun w _ => r2 w) ?_) | refine WL.step rfl (StepTo.callV (v := .int .u32 a) (us := [.int .u32 a, .int .u32 b]) rfl rfl rfl rfl rfl (by kernel_rfl) (fun w _ => q3 w) ?_) | refine WL.step rfl (StepTo.callV (v := .bool (decide (0 < (0 : Int)))) (us := [.int .u32 a, .int .u32 a]) rfl rfl rfl rfl rfl (by kernel_rfl) (fun w _ => qa w) ?_) | refine WL.step rfl (StepTo.callV (v := .bool (decide (0 < k))) (us := [.int .u16 c, .int .u16 d]) rfl rfl rfl rfl rfl (by kernel_rfl) (fun w _ => q4 w) ?_) | refine WL.step rfl (StepTo.callV (v := .int .i64 k) (us := [.int .u16 c, .int .u16 d]) rfl rfl rfl rfl rfl (by kernel_rfl) (fun w _ => q5 w) ?_) | refine WL.step rfl (StepTo.callV (v := .bool (decide (0 < (0 : Int)))) (us := [.int .u32 b, .int .u32 b]) rfl rfl rfl rfl rfl (by kernel_rfl) (fun w _ => qb w) ?_))
    | ((with_reducible refine WL.isT ?_); first | refine WL.skipT rfl rfl rfl rfl gdQ ?_ | refine WL.skipU rfl rfl rfl rfl ?_ | refine WL.runT rfl rfl rfl gdQ ?_)
    | ((with_reducible refine WL.isF ?_); first | refine WL.skipF rfl rfl rfl rfl gdQ ?_ | refine WL.skipU rfl rfl rfl rfl ?_ | refine WL.runF rfl rfl rfl gdQ ?_)
    | with_reducible refine WC.block ?_
    | with_reducible refine WC.scope ?_
    | with_reducible refine WC.label ?_
    | with_reducible refine WQ.ngN ?_
    | with_reducible refine WQ.ngR ?_
    | with_reducible refine WQ.ngX ?_
    | with_reducible refine WC.skip ?_
    | with_reducible refine WC.ret ?_
    | with_reducible refine WC.exit ?_
    | with_reducible refine WQ.thenR ?_
    | with_reducible refine WQ.thenX ?_
    | with_reducible refine WQ.blkN ?_
    | with_reducible refine WQ.blkR ?_
    | ((with_reducible refine WQ.blkX ?_ ?_); focus rfl)
    | ((with_reducible refine WQ.blkY ?_ ?_); focus rfl)
    | refine WC.condT rfl ?_
    | refine WC.condF rfl ?_
    | refine WC.condTh rfl gdQ ?_
    | refine WC.condFh rfl gdQ ?_
    | (refine WC.cond rfl (fun hc => ?_) (fun hc => ?_) <;> (try first | (with_reducible replace hc := of_decide_eq_true hc) | (with_reducible replace hc := of_decide_eq_false hc) | (with_reducible replace hc := eqT hc) | (with_reducible replace hc := eqF hc) | (with_reducible replace hc := neT hc) | (with_reducible replace hc := neF hc) | (with_reducible replace hc := noT hc) | (with_reducible replace hc := noF hc)) <;> (try (exfalso; omega))))
    exact WQ.body (Reads.tmp rfl rfl) fun w' hw' => ⟨by first | rfl | simp [hq], hw'.ext.below⟩
  · have hl := l1 (by omega)
    rw [hl] at q3
    have hne : (b == a) = false := beqF fun e => hz (zero.2 e.symm)
    have hq : (!(decide (0 < m))) = true := by rw [decide_eq_false (by omega)]; rfl
    refine enterW (fun _ => False) _ Try.func9 rfl (by simp only [Try.ntmps9, List.length_cons, List.length_nil, Nat.reduceAdd, Nat.reduceSub]; rfl) ?_
    repeat' (first
    | with_reducible refine WL.nil ?_
    | with_reducible refine WQ.thenN ?_
    | with_reducible refine WQ.code ?_
    | with_reducible refine WC.seq ?_
    | with_reducible refine WC.region ?_
    | ((with_reducible refine WL.isN_move ?_); first | refine WL.yld rfl (Yld.pure rfl nrmQ) ?_)
    | ((with_reducible refine WL.isN_assign ?_); first | refine WL.yld rfl (Yld.pure rfl nrmQ) ?_)
    | ((with_reducible refine WL.isN_bin ?_); first | refine WL.yld rfl (Yld.eqlB rfl rfl rfl rfl) ?_ | refine WL.yld rfl (Yld.pure rfl nrmQ) ?_ | refine WL.yld rfl (Yld.rem rfl rfl rfl rfl (by omega) (by omega)) ?_ | refine WL.yld rfl (Yld.quo rfl rfl rfl rfl (by omega) (by omega) nrmQ) ?_ | refine WL.yld rfl (Yld.eqlB rfl rfl rfl rfl) ?_ | refine WL.yld rfl (Yld.neqB rfl rfl rfl rfl) ?_ | refine WL.yld rfl (Yld.eqlA 4 rfl rfl rfl (by kernel_rfl) (by kernel_rfl) rfl rfl) ?_ | refine WL.yld rfl (Yld.neqA 4 rfl rfl rfl (by kernel_rfl) (by kernel_rfl) rfl rfl) ?_ | refine WL.yld rfl (Yld.quoT rfl rfl rfl rfl (by omega) nrmQ) ?_)
    | ((with_reducible refine WL.isN_un ?_); first | refine WL.yld rfl (Yld.pure rfl nrmQ) ?_)
    | ((with_reducible refine WL.isN_conv ?_); first | refine WL.yld rfl (Yld.convInt rfl rfl rfl rfl nrmQ) ?_)
    | ((with_reducible refine WL.isN_pick ?_); first | refine WL.yld rfl (Yld.pickT rfl rfl rfl) ?_ | refine WL.yld rfl (Yld.pickF rfl rfl rfl) ?_ | refine WL.yld rfl (Yld.pickTh rfl rfl gdQ rfl) ?_ | refine WL.yld rfl (Yld.pickFh rfl rfl gdQ rfl) ?_ | refine WL.yld rfl (Yld.pickB rfl rfl rfl rfl) ?_)
    | ((with_reducible refine WL.isN_call ?_); first | refine WL.step rfl (StepTo.callV (v := .bool true) (us := []) rfl rfl rfl rfl rfl (by kernel_rfl) (fun w _ => shown_q w) ?_) | refine WL.step rfl (StepTo.callV (v := .bool (decide (0 < n))) (us := [.int .u32 a, .int .u32 b]) rfl rfl rfl rfl rfl (by kernel_rfl) (fun w _ => q1 w) ?_) | refine WL.step rfl (StepTo.callV (v := .int .i64 n) (us := [.int .u32 a, .int .u32 b]) rfl rfl rfl rfl rfl (by kernel_rfl) (fun w _ => q2 w) ?_) | refine WL.step rfl (StepTo.callV (v := .bool (decide (0 < m))) (us := [.int .u32 b, .int .u32 a]) rfl rfl rfl rfl rfl (by kernel_rfl) (fun w _ => r1 w) ?_) | refine WL.step rfl (StepTo.callV (v := .int .i64 m) (us := [.int .u32 b, .int .u32 a]) rfl rfl rfl rfl rfl (by kernel_rfl) (fun w _ => r2 w) ?_) | refine WL.step rfl (StepTo.callV (v := .int .u32 b) (us := [.int .u32 a, .int .u32 b]) rfl rfl rfl rfl rfl (by kernel_rfl) (fun w _ => q3 w) ?_) | refine WL.step rfl (StepTo.callV (v := .bool (decide (0 < (0 : Int)))) (us := [.int .u32 a, .int .u32 a]) rfl rfl rfl rfl rfl (by kernel_rfl) (fun w _ => qa w) ?_) | refine WL.step rfl (StepTo.callV (v := .bool (decide (0 < k))) (us := [.int .u16 c, .int .u16 d]) rfl rfl rfl rfl rfl (by kernel_rfl) (fun w _ => q4 w) ?_) | refine WL.step rfl (StepTo.callV (v := .int .i64 k) (us := [.int .u16 c, .int .u16 d]) rfl rfl rfl rfl rfl (by kernel_rfl) (fun w _ => q5 w) ?_) | refine WL.step rfl (StepTo.callV (v := .bool (decide (0 < (0 : Int)))) (us := [.int .u32 b, .int .u32 b]) rfl rfl rfl rfl rfl (by kernel_rfl) (fun w _ => qb w) ?_))
    | ((with_reducible refine WL.isT ?_); first | refine WL.skipT rfl rfl rfl rfl gdQ ?_ | refine WL.skipU rfl rfl rfl rfl ?_ | refine WL.runT rfl rfl rfl gdQ ?_)
    | ((with_reducible refine WL.isF ?_); first | refine WL.skipF rfl rfl rfl rfl gdQ ?_ | refine WL.skipU rfl rfl rfl rfl ?_ | refine WL.runF rfl rfl rfl gdQ ?_)
    | with_reducible refine WC.block ?_
    | with_reducible refine WC.scope ?_
    | with_reducible refine WC.label ?_
    | with_reducible refine WQ.ngN ?_
    | with_reducible refine WQ.ngR ?_
    | with_reducible refine WQ.ngX ?_
    | with_reducible refine WC.skip ?_
    | with_reducible refine WC.ret ?_
    | with_reducible refine WC.exit ?_
    | with_reducible refine WQ.thenR ?_
    | with_reducible refine WQ.thenX ?_
    | with_reducible refine WQ.blkN ?_
    | with_reducible refine WQ.blkR ?_
    | ((with_reducible refine WQ.blkX ?_ ?_); focus rfl)
    | ((with_reducible refine WQ.blkY ?_ ?_); focus rfl)
    | refine WC.condT rfl ?_
    | refine WC.condF rfl ?_
    | refine WC.condTh rfl gdQ ?_
    | refine WC.condFh rfl gdQ ?_
    | (refine WC.cond rfl (fun hc => ?_) (fun hc => ?_) <;> (try first | (with_reducible replace hc := of_decide_eq_true hc) | (with_reducible replace hc := of_decide_eq_false hc) | (with_reducible replace hc := eqT hc) | (with_reducible replace hc := eqF hc) | (with_reducible replace hc := neT hc) | (with_reducible replace hc := neF hc) | (with_reducible replace hc := noT hc) | (with_reducible replace hc := noF hc)) <;> (try (exfalso; omega))))
    exact WQ.body (Reads.tmp rfl rfl) fun w' hw' => ⟨by first | rfl | simp [hq], hw'.ext.below⟩
end Go.Proofs.Ytgamndfgcbapgaa
