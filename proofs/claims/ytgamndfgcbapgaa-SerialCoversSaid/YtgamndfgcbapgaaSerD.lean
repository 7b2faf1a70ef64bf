/- Chains of numbers, and numbers of 16 bits: the laws SerialChains and SerialNarrow. -/
import Derived.Test.YtgamndfgcbapgaaSerA
namespace Go.Proofs.Ytgamndfgcbapgaa
open Go.RowKit
open Go.Proofs.Ytgamndfgcbapgaa.Ser
set_option linter.unusedVariables false
set_option maxRecDepth 100000

theorem eqB_self {p : Bool} : Value.bool (p == p) = .bool true := by cases p <;> rfl
theorem eqI_self {x : Int} : Value.bool (x == x) = .bool true := by simp
theorem wU32 {x y : Int} (h : x % 4294967296 = y) : Value.int .u32 (IntKind.u32.wrap x) = .int .u32 y := by rw [IntKind.wrap_u32, h]
theorem wU16 {x y : Int} (h : x % 65536 = y) : Value.int .u16 (IntKind.u16.wrap x) = .int .u16 y := by rw [IntKind.wrap_u16, h]
theorem boolIs {p q : Bool} {w : World} {e : Ending} {w' : World} (h : e = .returned (.bool p) ∧ Below w.heap.size w w') (hp : p = q) : e = .returned (.bool q) ∧ Below w.heap.size w w' := hp ▸ h
theorem Before_t (a b : Int) (r : Bool) (h : decide (0 < sd32 (b - a)) = r) (w : World) : Calls Try.prog 20 #[.int .u32 a, .int .u32 b] w fun e w' => e = .returned (.bool r) ∧ Below w.heap.size w w' := h ▸ Before_q a b w
theorem Dist_t (a b d : Int) (h : sd32 (b - a) = d) (w : World) : Calls Try.prog 21 #[.int .u32 a, .int .u32 b] w fun e w' => e = .returned (.int .i64 d) ∧ Below w.heap.size w w' := h ▸ Dist_q a b w
theorem later_t (a b d : Int) (h : laterF a b = d) (w : World) : Calls Try.prog 26 #[.int .u32 a, .int .u32 b] w fun e w' => e = .returned (.int .u32 d) ∧ Below w.heap.size w w' := h ▸ later_q a b w
theorem within_t (x a b : Int) (r : Bool) (h : withinF x a b = r) (w : World) : Calls Try.prog 16 #[.int .u32 x, .int .u32 a, .int .u32 b] w fun e w' => e = .returned (.bool r) ∧ Below w.heap.size w w' := h ▸ within_q x a b w
theorem Before16_t (a b : Int) (r : Bool) (h : decide (0 < sd16 (b - a)) = r) (w : World) : Calls Try.prog 22 #[.int .u16 a, .int .u16 b] w fun e w' => e = .returned (.bool r) ∧ Below w.heap.size w w' := h ▸ Before16_q a b w
theorem Dist16_t (a b d : Int) (h : sd16 (b - a) = d) (w : World) : Calls Try.prog 23 #[.int .u16 a, .int .u16 b] w fun e w' => e = .returned (.int .i64 d) ∧ Below w.heap.size w w' := h ▸ Dist16_q a b w

structure Chn (a X Y B C : Int) : Prop where
  b1 : 0 < X → decide (0 < sd32 (B - a)) = true
  b2 : 0 < Y → decide (0 < sd32 (C - B)) = true
  b3 : 0 < X → X + Y < 2147483648 → decide (0 < sd32 (C - a)) = true
  d1 : sd32 (B - a) = X
  d2 : sd32 (C - B) = Y
  d3 : X + Y < 2147483648 → sd32 (C - a) = X + Y
  w1 : X + Y < 2147483648 → withinF B a C = true
  w2 : 0 < Y → X + Y < 2147483648 → withinF C a B = false
theorem chn {a X Y B C : Int} (ha : RU a) (hX : 0 ≤ X ∧ X < 2147483648) (hY : 0 ≤ Y ∧ Y < 2147483648) (hB : (a + X) % 4294967296 = B) (hC : (B + Y) % 4294967296 = C) : Chn a X Y B C := by
  unfold RU at ha
  have d1 : sd32 (B - a) = X := by rw [sd32_eq]; omega
  have d2 : sd32 (C - B) = Y := by rw [sd32_eq]; omega
  have d3 : X + Y < 2147483648 → sd32 (C - a) = X + Y := by intro h; rw [sd32_eq]; omega
  refine ⟨fun h => ?_, fun h => ?_, fun h h2 => ?_, d1, d2, d3, fun h => ?_, fun h h2 => ?_⟩
  · rw [d1]; exact decide_eq_true h
  · rw [d2]; exact decide_eq_true h
  · rw [d3 h2]; exact decide_eq_true (by omega)
  · unfold withinF kf; exact decide_eq_true (by omega)
  · unfold withinF kf; exact decide_eq_false (by omega)

set_option maxHeartbeats 4000000 in
theorem serialChains_walk (a x y : Int) (w : World) (w0 : (Lit.int .u32 a).wf = true) (w1 : (Lit.int .u32 x).wf = true) (w2 : (Lit.int .u32 y).wf = true) :
    Calls Try.prog 10 #[.int .u32 a, .int .u32 x, .int .u32 y] w fun e w' => e = .returned (.bool true) ∧ Below w.heap.size w w' := by
  have ha := ru_wf w0
  have hx := ru_wf w1
  have hy := ru_wf w2
  obtain ⟨X, hX⟩ : ∃ X, x % 2147483648 = X := ⟨_, rfl⟩
  obtain ⟨Y, hY⟩ : ∃ Y, y % 2147483648 = Y := ⟨_, rfl⟩
  obtain ⟨B, hB⟩ : ∃ B, (a + X) % 4294967296 = B := ⟨_, rfl⟩
  obtain ⟨C, hC⟩ : ∃ C, (B + Y) % 4294967296 = C := ⟨_, rfl⟩
  have hX' : 0 ≤ X ∧ X < 2147483648 := by omega
  have hY' : 0 ≤ Y ∧ Y < 2147483648 := by omega
  have hc := chn ha hX' hY' hB hC
  have hXv : Value.int .u32 (x % 2147483648) = .int .u32 X := by rw [hX]
  have hYv : Value.int .u32 (y % 2147483648) = .int .u32 Y := by rw [hY]
  have hBv := wU32 hB
  have hCv := wU32 hC
  unfold RU at ha hx hy
  clear w0 w1 w2 hX hY hB hC
  refine enterW (fun _ => False) _ Try.func10 rfl (by simp only [Try.ntmps10, List.length_cons, List.length_nil, Nat.reduceAdd, Nat.reduceSub]; rfl) ?_
  by_cases hx0 : X = 0
  · have g1 := beqT hx0
    repeat' (first
    | with_reducible refine WL.nil ?_
    | with_reducible refine WQ.thenN ?_
    | with_reducible refine WQ.code ?_
    | with_reducible refine WC.seq ?_
    | with_reducible refine WC.region ?_
    | ((with_reducible refine WL.isN_move ?_); first | refine WL.yld rfl (Yld.pure rfl nrmQ) ?_)
    | ((with_reducible refine WL.isN_assign ?_); first | refine WL.yld rfl (Yld.pure rfl nrmQ) ?_)
    | ((with_reducible refine WL.isN_bin ?_); first | refine WL.yld rfl ((Yld.rem rfl rfl rfl rfl (by omega) (by omega)).to hXv) ?_ | refine WL.yld rfl ((Yld.rem rfl rfl rfl rfl (by omega) (by omega)).to hYv) ?_ | refine WL.yld rfl (Yld.pure rfl hBv) ?_ | refine WL.yld rfl (Yld.pure rfl hCv) ?_ | refine WL.yld rfl (Yld.pure rfl nrmQ) ?_ | refine WL.yld rfl (Yld.rem rfl rfl rfl rfl (by omega) (by omega)) ?_ | refine WL.yld rfl (Yld.quo rfl rfl rfl rfl (by omega) (by omega) nrmQ) ?_ | refine WL.yld rfl (Yld.eqlB rfl rfl rfl rfl) ?_ | refine WL.yld rfl (Yld.neqB rfl rfl rfl rfl) ?_ | refine WL.yld rfl (Yld.eqlA 4 rfl rfl rfl (by kernel_rfl) (by kernel_rfl) rfl rfl) ?_ | refine WL.yld rfl (Yld.neqA 4 rfl rfl rfl (by kernel_rfl) (by kernel_rfl) rfl rfl) ?_ | refine WL.yld rfl (Yld.quoT rfl rfl rfl rfl (by omega) nrmQ) ?_)
    | ((with_reducible refine WL.isN_un ?_); first | refine WL.yld rfl (Yld.pure rfl nrmQ) ?_)
    | ((with_reducible refine WL.isN_conv ?_); first | refine WL.yld rfl (Yld.convInt rfl rfl rfl rfl nrmQ) ?_)
    | ((with_reducible refine WL.isN_pick ?_); first | refine WL.yld rfl (Yld.pickT rfl rfl rfl) ?_ | refine WL.yld rfl (Yld.pickF rfl rfl rfl) ?_ | refine WL.yld rfl (Yld.pickTh rfl rfl gdQ rfl) ?_ | refine WL.yld rfl (Yld.pickFh rfl rfl gdQ rfl) ?_ | refine WL.yld rfl (Yld.pickB rfl rfl rfl rfl) ?_)
    | ((with_reducible refine WL.isN_call ?_); first | refine WL.step rfl (StepTo.callV (v := .bool true) (us := []) rfl rfl rfl rfl rfl (by kernel_rfl) (fun w _ => shown_q w) ?_))
    | ((with_reducible refine WL.isT ?_); first | refine WL.skipT rfl rfl rfl rfl gdQ ?_ | refine WL.skipU rfl rfl rfl rfl ?_ | refine WL.runT rfl rfl rfl gdQ ?_)
    | ((with_reducible refine WL.isF ?_); first | refine WL.skipF rfl rfl rfl rfl gdQ ?_ | refine WL.skipU rfl rfl rfl rfl ?_ | refine WL.runF rfl rfl rfl gdQ ?_)
    | with_reducible refine WC.block ?_
    | with_reducible refine WC.scope ?_
    | with_reducible refine WC.label ?_
    | with_reducible refine WQ.ngN ?_
    | with_reducible refine WQ.ngR ?_
    | with_reducible refine WQ.ngX ?_
    | with_reducible refine WC.skip ?_
    | with_reducible refine WC.ret ?_
    | with_reducible refine WC.exit ?_
    | with_reducible refine WQ.thenR ?_
    | with_reducible refine WQ.thenX ?_
    | with_reducible refine WQ.blkN ?_
    | with_reducible refine WQ.blkR ?_
    | ((with_reducible refine WQ.blkX ?_ ?_); focus rfl)
    | ((with_reducible refine WQ.blkY ?_ ?_); focus rfl)
    | refine WC.condT rfl ?_
    | refine WC.condF rfl ?_
    | refine WC.condTh rfl gdQ ?_
    | refine WC.condFh rfl gdQ ?_
    | (refine WC.cond rfl (fun hc => ?_) (fun hc => ?_) <;> (try first | (with_reducible replace hc := of_decide_eq_true hc) | (with_reducible replace hc := of_decide_eq_false hc) | (with_reducible replace hc := eqT hc) | (with_reducible replace hc := eqF hc) | (with_reducible replace hc := neT hc) | (with_reducible replace hc := neF hc) | (with_reducible replace hc := noT hc) | (with_reducible replace hc := noF hc)) <;> (try (exfalso; omega))))
    exact WQ.body (Reads.tmp rfl rfl) fun w' hw' => ⟨by rfl, hw'.ext.below⟩
  have g1 := beqF hx0
  by_cases hy0 : Y = 0
  · have g2 := beqT hy0
    repeat' (first
    | with_reducible refine WL.nil ?_
    | with_reducible refine WQ.thenN ?_
    | with_reducible refine WQ.code ?_
    | with_reducible refine WC.seq ?_
    | with_reducible refine WC.region ?_
    | ((with_reducible refine WL.isN_move ?_); first | refine WL.yld rfl (Yld.pure rfl nrmQ) ?_)
    | ((with_reducible refine WL.isN_assign ?_); first | refine WL.yld rfl (Yld.pure rfl nrmQ) ?_)
    | ((with_reducible refine WL.isN_bin ?_); first | refine WL.yld rfl ((Yld.rem rfl rfl rfl rfl (by omega) (by omega)).to hXv) ?_ | refine WL.yld rfl ((Yld.rem rfl rfl rfl rfl (by omega) (by omega)).to hYv) ?_ | refine WL.yld rfl (Yld.pure rfl hBv) ?_ | refine WL.yld rfl (Yld.pure rfl hCv) ?_ | refine WL.yld rfl (Yld.pure rfl nrmQ) ?_ | refine WL.yld rfl (Yld.rem rfl rfl rfl rfl (by omega) (by omega)) ?_ | refine WL.yld rfl (Yld.quo rfl rfl rfl rfl (by omega) (by omega) nrmQ) ?_ | refine WL.yld rfl (Yld.eqlB rfl rfl rfl rfl) ?_ | refine WL.yld rfl (Yld.neqB rfl rfl rfl rfl) ?_ | refine WL.yld rfl (Yld.eqlA 4 rfl rfl rfl (by kernel_rfl) (by kernel_rfl) rfl rfl) ?_ | refine WL.yld rfl (Yld.neqA 4 rfl rfl rfl (by kernel_rfl) (by kernel_rfl) rfl rfl) ?_ | refine WL.yld rfl (Yld.quoT rfl rfl rfl rfl (by omega) nrmQ) ?_)
    | ((with_reducible refine WL.isN_un ?_); first | refine WL.yld rfl (Yld.pure rfl nrmQ) ?_)
    | ((with_reducible refine WL.isN_conv ?_); first | refine WL.yld rfl (Yld.convInt rfl rfl rfl rfl nrmQ) ?_)
    | ((with_reducible refine WL.isN_pick ?_); first | refine WL.yld rfl (Yld.pickT rfl rfl rfl) ?_ | refine WL.yld rfl (Yld.pickF rfl rfl rfl) ?_ | refine WL.yld rfl (Yld.pickTh rfl rfl gdQ rfl) ?_ | refine WL.yld rfl (Yld.pickFh rfl rfl gdQ rfl) ?_ | refine WL.yld rfl (Yld.pickB rfl rfl rfl rfl) ?_)
    | ((with_reducible refine WL.isN_call ?_); first | refine WL.step rfl (StepTo.callV (v := .bool true) (us := []) rfl rfl rfl rfl rfl (by kernel_rfl) (fun w _ => shown_q w) ?_) | refine WL.step rfl (StepTo.callV (v := .bool true) (us := [.int .u32 a, .int .u32 B]) rfl rfl rfl rfl rfl (by kernel_rfl) (fun w _ => Before_t a B true (hc.b1 (by omega)) w) ?_))
    | ((with_reducible refine WL.isT ?_); first | refine WL.skipT rfl rfl rfl rfl gdQ ?_ | refine WL.skipU rfl rfl rfl rfl ?_ | refine WL.runT rfl rfl rfl gdQ ?_)
    | ((with_reducible refine WL.isF ?_); first | refine WL.skipF rfl rfl rfl rfl gdQ ?_ | refine WL.skipU rfl rfl rfl rfl ?_ | refine WL.runF rfl rfl rfl gdQ ?_)
    | with_reducible refine WC.block ?_
    | with_reducible refine WC.scope ?_
    | with_reducible refine WC.label ?_
    | with_reducible refine WQ.ngN ?_
    | with_reducible refine WQ.ngR ?_
    | with_reducible refine WQ.ngX ?_
    | with_reducible refine WC.skip ?_
    | with_reducible refine WC.ret ?_
    | with_reducible refine WC.exit ?_
    | with_reducible refine WQ.thenR ?_
    | with_reducible refine WQ.thenX ?_
    | with_reducible refine WQ.blkN ?_
    | with_reducible refine WQ.blkR ?_
    | ((with_reducible refine WQ.blkX ?_ ?_); focus rfl)
    | ((with_reducible refine WQ.blkY ?_ ?_); focus rfl)
    | refine WC.condT rfl ?_
    | refine WC.condF rfl ?_
    | refine WC.condTh rfl gdQ ?_
    | refine WC.condFh rfl gdQ ?_
    | (refine WC.cond rfl (fun hc => ?_) (fun hc => ?_) <;> (try first | (with_reducible replace hc := of_decide_eq_true hc) | (with_reducible replace hc := of_decide_eq_false hc) | (with_reducible replace hc := eqT hc) | (with_reducible replace hc := eqF hc) | (with_reducible replace hc := neT hc) | (with_reducible replace hc := neF hc) | (with_reducible replace hc := noT hc) | (with_reducible replace hc := noF hc)) <;> (try (exfalso; omega))))
    exact WQ.body (Reads.tmp rfl rfl) fun w' hw' => ⟨by rfl, hw'.ext.below⟩
  have g2 := beqF hy0
  by_cases hs : X + Y ≥ 2147483648
  · have g3 := decide_eq_true hs
    repeat' (first
    | with_reducible refine WL.nil ?_
    | with_reducible refine WQ.thenN ?_
    | with_reducible refine WQ.code ?_
    | with_reducible refine WC.seq ?_
    | with_reducible refine WC.region ?_
    | ((with_reducible refine WL.isN_move ?_); first | refine WL.yld rfl (Yld.pure rfl nrmQ) ?_)
    | ((with_reducible refine WL.isN_assign ?_); first | refine WL.yld rfl (Yld.pure rfl nrmQ) ?_)
    | ((with_reducible refine WL.isN_bin ?_); first | refine WL.yld rfl ((Yld.rem rfl rfl rfl rfl (by omega) (by omega)).to hXv) ?_ | refine WL.yld rfl ((Yld.rem rfl rfl rfl rfl (by omega) (by omega)).to hYv) ?_ | refine WL.yld rfl (Yld.pure rfl hBv) ?_ | refine WL.yld rfl (Yld.pure rfl hCv) ?_ | refine WL.yld rfl (Yld.pure rfl nrmQ) ?_ | refine WL.yld rfl (Yld.rem rfl rfl rfl rfl (by omega) (by omega)) ?_ | refine WL.yld rfl (Yld.quo rfl rfl rfl rfl (by omega) (by omega) nrmQ) ?_ | refine WL.yld rfl (Yld.eqlB rfl rfl rfl rfl) ?_ | refine WL.yld rfl (Yld.neqB rfl rfl rfl rfl) ?_ | refine WL.yld rfl (Yld.eqlA 4 rfl rfl rfl (by kernel_rfl) (by kernel_rfl) rfl rfl) ?_ | refine WL.yld rfl (Yld.neqA 4 rfl rfl rfl (by kernel_rfl) (by kernel_rfl) rfl rfl) ?_ | refine WL.yld rfl (Yld.quoT rfl rfl rfl rfl (by omega) nrmQ) ?_)
    | ((with_reducible refine WL.isN_un ?_); first | refine WL.yld rfl (Yld.pure rfl nrmQ) ?_)
    | ((with_reducible refine WL.isN_conv ?_); first | refine WL.yld rfl (Yld.convInt rfl rfl rfl rfl nrmQ) ?_)
    | ((with_reducible refine WL.isN_pick ?_); first | refine WL.yld rfl (Yld.pickT rfl rfl rfl) ?_ | refine WL.yld rfl (Yld.pickF rfl rfl rfl) ?_ | refine WL.yld rfl (Yld.pickTh rfl rfl gdQ rfl) ?_ | refine WL.yld rfl (Yld.pickFh rfl rfl gdQ rfl) ?_ | refine WL.yld rfl (Yld.pickB rfl rfl rfl rfl) ?_)
    | ((with_reducible refine WL.isN_call ?_); first | refine WL.step rfl (StepTo.callV (v := .bool true) (us := []) rfl rfl rfl rfl rfl (by kernel_rfl) (fun w _ => shown_q w) ?_) | refine WL.step rfl (StepTo.callV (v := .bool true) (us := [.int .u32 a, .int .u32 B]) rfl rfl rfl rfl rfl (by kernel_rfl) (fun w _ => Before_t a B true (hc.b1 (by omega)) w) ?_))
    | ((with_reducible refine WL.isT ?_); first | refine WL.skipT rfl rfl rfl rfl gdQ ?_ | refine WL.skipU rfl rfl rfl rfl ?_ | refine WL.runT rfl rfl rfl gdQ ?_)
    | ((with_reducible refine WL.isF ?_); first | refine WL.skipF rfl rfl rfl rfl gdQ ?_ | refine WL.skipU rfl rfl rfl rfl ?_ | refine WL.runF rfl rfl rfl gdQ ?_)
    | with_reducible refine WC.block ?_
    | with_reducible refine WC.scope ?_
    | with_reducible refine WC.label ?_
    | with_reducible refine WQ.ngN ?_
    | with_reducible refine WQ.ngR ?_
    | with_reducible refine WQ.ngX ?_
    | with_reducible refine WC.skip ?_
    | with_reducible refine WC.ret ?_
    | with_reducible refine WC.exit ?_
    | with_reducible refine WQ.thenR ?_
    | with_reducible refine WQ.thenX ?_
    | with_reducible refine WQ.blkN ?_
    | with_reducible refine WQ.blkR ?_
    | ((with_reducible refine WQ.blkX ?_ ?_); focus rfl)
    | ((with_reducible refine WQ.blkY ?_ ?_); focus rfl)
    | refine WC.condT rfl ?_
    | refine WC.condF rfl ?_
    | refine WC.condTh rfl gdQ ?_
    | refine WC.condFh rfl gdQ ?_
    | (refine WC.cond rfl (fun hc => ?_) (fun hc => ?_) <;> (try first | (with_reducible replace hc := of_decide_eq_true hc) | (with_reducible replace hc := of_decide_eq_false hc) | (with_reducible replace hc := eqT hc) | (with_reducible replace hc := eqF hc) | (with_reducible replace hc := neT hc) | (with_reducible replace hc := neF hc) | (with_reducible replace hc := noT hc) | (with_reducible replace hc := noF hc)) <;> (try (exfalso; omega))))
    exact WQ.body (Reads.tmp rfl rfl) fun w' hw' => ⟨by rfl, hw'.ext.below⟩
  have g3 := decide_eq_false hs
  have hd3 := hc.d3 (by omega)
  have hl1 : laterF a B = B := by unfold laterF; rw [if_pos (by rw [hc.d1]; omega)]
  have hl2 : laterF B C = C := by unfold laterF; rw [if_pos (by rw [hc.d2]; omega)]
  repeat' (first
    | with_reducible refine WL.nil ?_
    | with_reducible refine WQ.thenN ?_
    | with_reducible refine WQ.code ?_
    | with_reducible refine WC.seq ?_
    | with_reducible refine WC.region ?_
    | ((with_reducible refine WL.isN_move ?_); first | refine WL.yld rfl (Yld.pure rfl nrmQ) ?_)
    | ((with_reducible refine WL.isN_assign ?_); first | refine WL.yld rfl (Yld.pure rfl nrmQ) ?_)
    | ((with_reducible refine WL.isN_bin ?_); first | refine WL.yld rfl (Yld.pure rfl eqI_self) ?_ | refine WL.yld rfl ((Yld.rem rfl rfl rfl rfl (by omega) (by omega)).to hXv) ?_ | refine WL.yld rfl ((Yld.rem rfl rfl rfl rfl (by omega) (by omega)).to hYv) ?_ | refine WL.yld rfl (Yld.pure rfl hBv) ?_ | refine WL.yld rfl (Yld.pure rfl hCv) ?_ | refine WL.yld rfl (Yld.pure rfl nrmQ) ?_ | refine WL.yld rfl (Yld.rem rfl rfl rfl rfl (by omega) (by omega)) ?_ | refine WL.yld rfl (Yld.quo rfl rfl rfl rfl (by omega) (by omega) nrmQ) ?_ | refine WL.yld rfl (Yld.eqlB rfl rfl rfl rfl) ?_ | refine WL.yld rfl (Yld.neqB rfl rfl rfl rfl) ?_ | refine WL.yld rfl (Yld.eqlA 4 rfl rfl rfl (by kernel_rfl) (by kernel_rfl) rfl rfl) ?_ | refine WL.yld rfl (Yld.neqA 4 rfl rfl rfl (by kernel_rfl) (by kernel_rfl) rfl rfl) ?_ | refine WL.yld rfl (Yld.quoT rfl rfl rfl rfl (by omega) nrmQ) ?_)
    | ((with_reducible refine WL.isN_un ?_); first | refine WL.yld rfl (Yld.pure rfl nrmQ) ?_)
    | ((with_reducible refine WL.isN_conv ?_); first | refine WL.yld rfl (Yld.convInt rfl rfl rfl rfl nrmQ) ?_)
    | ((with_reducible refine WL.isN_pick ?_); first | refine WL.yld rfl (Yld.pickT rfl rfl rfl) ?_ | refine WL.yld rfl (Yld.pickF rfl rfl rfl) ?_ | refine WL.yld rfl (Yld.pickTh rfl rfl gdQ rfl) ?_ | refine WL.yld rfl (Yld.pickFh rfl rfl gdQ rfl) ?_ | refine WL.yld rfl (Yld.pickB rfl rfl rfl rfl) ?_)
    | ((with_reducible refine WL.isN_call ?_); first | refine WL.step rfl (StepTo.callV (v := .bool true) (us := []) rfl rfl rfl rfl rfl (by kernel_rfl) (fun w _ => shown_q w) ?_) | refine WL.step rfl (StepTo.callV (v := .bool true) (us := [.int .u32 a, .int .u32 B]) rfl rfl rfl rfl rfl (by kernel_rfl) (fun w _ => Before_t a B true (hc.b1 (by omega)) w) ?_) | refine WL.step rfl (StepTo.callV (v := .bool true) (us := [.int .u32 B, .int .u32 C]) rfl rfl rfl rfl rfl (by kernel_rfl) (fun w _ => Before_t B C true (hc.b2 (by omega)) w) ?_) | refine WL.step rfl (StepTo.callV (v := .bool true) (us := [.int .u32 a, .int .u32 C]) rfl rfl rfl rfl rfl (by kernel_rfl) (fun w _ => Before_t a C true (hc.b3 (by omega) (by omega)) w) ?_) | refine WL.step rfl (StepTo.callV (v := .int .i64 (X + Y)) (us := [.int .u32 a, .int .u32 C]) rfl rfl rfl rfl rfl (by kernel_rfl) (fun w _ => Dist_t a C _ hd3 w) ?_) | refine WL.step rfl (StepTo.callV (v := .int .i64 X) (us := [.int .u32 a, .int .u32 B]) rfl rfl rfl rfl rfl (by kernel_rfl) (fun w _ => Dist_t a B _ hc.d1 w) ?_) | refine WL.step rfl (StepTo.callV (v := .int .i64 Y) (us := [.int .u32 B, .int .u32 C]) rfl rfl rfl rfl rfl (by kernel_rfl) (fun w _ => Dist_t B C _ hc.d2 w) ?_) | refine WL.step rfl (StepTo.callV (v := .int .u32 B) (us := [.int .u32 a, .int .u32 B]) rfl rfl rfl rfl rfl (by kernel_rfl) (fun w _ => later_t a B _ hl1 w) ?_) | refine WL.step rfl (StepTo.callV (v := .int .u32 C) (us := [.int .u32 B, .int .u32 C]) rfl rfl rfl rfl rfl (by kernel_rfl) (fun w _ => later_t B C _ hl2 w) ?_) | refine WL.step rfl (StepTo.callV (v := .bool true) (us := [.int .u32 B, .int .u32 a, .int .u32 C]) rfl rfl rfl rfl rfl (by kernel_rfl) (fun w _ => within_t B a C _ (hc.w1 (by omega)) w) ?_) | refine WL.step rfl (StepTo.callV (v := .bool false) (us := [.int .u32 C, .int .u32 a, .int .u32 B]) rfl rfl rfl rfl rfl (by kernel_rfl) (fun w _ => within_t C a B _ (hc.w2 (by omega) (by omega)) w) ?_))
    | ((with_reducible refine WL.isT ?_); first | refine WL.skipT rfl rfl rfl rfl gdQ ?_ | refine WL.skipU rfl rfl rfl rfl ?_ | refine WL.runT rfl rfl rfl gdQ ?_)
    | ((with_reducible refine WL.isF ?_); first | refine WL.skipF rfl rfl rfl rfl gdQ ?_ | refine WL.skipU rfl rfl rfl rfl ?_ | refine WL.runF rfl rfl rfl gdQ ?_)
    | with_reducible refine WC.block ?_
    | with_reducible refine WC.scope ?_
    | with_reducible refine WC.label ?_
    | with_reducible refine WQ.ngN ?_
    | with_reducible refine WQ.ngR ?_
    | with_reducible refine WQ.ngX ?_
    | with_reducible refine WC.skip ?_
    | with_reducible refine WC.ret ?_
    | with_reducible refine WC.exit ?_
    | with_reducible refine WQ.thenR ?_
    | with_reducible refine WQ.thenX ?_
    | with_reducible refine WQ.blkN ?_
    | with_reducible refine WQ.blkR ?_
    | ((with_reducible refine WQ.blkX ?_ ?_); focus rfl)
    | ((with_reducible refine WQ.blkY ?_ ?_); focus rfl)
    | refine WC.condT rfl ?_
    | refine WC.condF rfl ?_
    | refine WC.condTh rfl gdQ ?_
    | refine WC.condFh rfl gdQ ?_
    | (refine WC.cond rfl (fun hc => ?_) (fun hc => ?_) <;> (try first | (with_reducible replace hc := of_decide_eq_true hc) | (with_reducible replace hc := of_decide_eq_false hc) | (with_reducible replace hc := eqT hc) | (with_reducible replace hc := eqF hc) | (with_reducible replace hc := neT hc) | (with_reducible replace hc := neF hc) | (with_reducible replace hc := noT hc) | (with_reducible replace hc := noF hc)) <;> (try (exfalso; omega))))
  exact WQ.body (Reads.tmp rfl rfl) fun w' hw' => ⟨by rfl, hw'.ext.below⟩

structure Nrw (z X Y U V : Int) : Prop where
  b1 : 0 < X → decide (0 < sd16 (U - z)) = true
  b2 : 0 < Y → decide (0 < sd16 (V - U)) = true
  b3 : 0 < X → decide (0 < sd16 (V - z)) = true
theorem nrw {z X Y U V : Int} (hz : RU6 z) (hX : 0 ≤ X ∧ X < 16384) (hY : 0 ≤ Y ∧ Y < 16384) (hU : (z + X) % 65536 = U) (hV : (U + Y) % 65536 = V) : Nrw z X Y U V := by
  unfold RU6 at hz
  refine ⟨fun h => ?_, fun h => ?_, fun h => ?_⟩
  all_goals (refine decide_eq_true ?_; rw [sd16_eq]; omega)
set_option maxHeartbeats 4000000 in
theorem serialNarrow_walk (a b z : Int) (w : World) (w0 : (Lit.int .u16 a).wf = true) (w1 : (Lit.int .u16 b).wf = true) (w2 : (Lit.int .u16 z).wf = true) :
    Calls Try.prog 7 #[.int .u16 a, .int .u16 b, .int .u16 z] w fun e w' => e = .returned (.bool true) ∧ Below w.heap.size w w' := by
  have ha := ru6_wf w0
  have hb := ru6_wf w1
  have hz := ru6_wf w2
  obtain ⟨X, hX⟩ : ∃ X, a % 16384 = X := ⟨_, rfl⟩
  obtain ⟨Y, hY⟩ : ∃ Y, b % 16384 = Y := ⟨_, rfl⟩
  obtain ⟨U, hU⟩ : ∃ U, (z + X) % 65536 = U := ⟨_, rfl⟩
  obtain ⟨V, hV⟩ : ∃ V, (U + Y) % 65536 = V := ⟨_, rfl⟩
  obtain ⟨A', hA⟩ : ∃ A', (a + z) % 65536 = A' := ⟨_, rfl⟩
  obtain ⟨B', hB⟩ : ∃ B', (b + z) % 65536 = B' := ⟨_, rfl⟩
  have hX' : 0 ≤ X ∧ X < 16384 := by omega
  have hY' : 0 ≤ Y ∧ Y < 16384 := by omega
  have hc := nrw hz hX' hY' hU hV
  obtain ⟨D, hD⟩ : ∃ D, sd16 (b - a) = D := ⟨_, rfl⟩
  have hD' : sd16 (B' - A') = D := by rw [← hD, sd16_eq, sd16_eq]; omega
  obtain ⟨T, hT⟩ : ∃ T, decide (0 < D) = T := ⟨_, rfl⟩
  have q1 := fun w => Before16_t a b T (by rw [hD]; exact hT) w
  have q2 := fun w => Before16_t A' B' T (by rw [hD']; exact hT) w
  have q3 := fun w => Dist16_t a b D hD w
  have q4 := fun w => Dist16_t A' B' D hD' w
  have hXv : Value.int .u16 (a % 16384) = .int .u16 X := by rw [hX]
  have hYv : Value.int .u16 (b % 16384) = .int .u16 Y := by rw [hY]
  have hUv := wU16 hU
  have hVv := wU16 hV
  have hAv := wU16 hA
  have hBv := wU16 hB
  unfold RU6 at ha hb hz
  clear w0 w1 w2 hX hY hU hV hA hB hD hD' hT
  refine enterW (fun _ => False) _ Try.func7 rfl (by simp only [Try.ntmps7, List.length_cons, List.length_nil, Nat.reduceAdd, Nat.reduceSub]; rfl) ?_
  by_cases hx0 : X = 0
  · have g1 := beqT hx0
    repeat' (first
    | with_reducible refine WL.nil ?_
    | with_reducible refine WQ.thenN ?_
    | with_reducible refine WQ.code ?_
    | with_reducible refine WC.seq ?_
    | with_reducible refine WC.region ?_
    | ((with_reducible refine WL.isN_move ?_); first | refine WL.yld rfl (Yld.pure rfl nrmQ) ?_)
    | ((with_reducible refine WL.isN_assign ?_); first | refine WL.yld rfl (Yld.pure rfl nrmQ) ?_)
    | ((with_reducible refine WL.isN_bin ?_); first | refine WL.yld rfl ((Yld.eqlB rfl rfl rfl rfl).to eqB_self) ?_ | refine WL.yld rfl (Yld.pure rfl eqI_self) ?_ | refine WL.yld rfl ((Yld.rem rfl rfl rfl rfl (by omega) (by omega)).to hXv) ?_ | refine WL.yld rfl ((Yld.rem rfl rfl rfl rfl (by omega) (by omega)).to hYv) ?_ | refine WL.yld rfl (Yld.pure rfl hUv) ?_ | refine WL.yld rfl (Yld.pure rfl hVv) ?_ | refine WL.yld rfl (Yld.pure rfl hAv) ?_ | refine WL.yld rfl (Yld.pure rfl hBv) ?_ | refine WL.yld rfl (Yld.pure rfl nrmQ) ?_ | refine WL.yld rfl (Yld.rem rfl rfl rfl rfl (by omega) (by omega)) ?_ | refine WL.yld rfl (Yld.quo rfl rfl rfl rfl (by omega) (by omega) nrmQ) ?_ | refine WL.yld rfl (Yld.eqlB rfl rfl rfl rfl) ?_ | refine WL.yld rfl (Yld.neqB rfl rfl rfl rfl) ?_ | refine WL.yld rfl (Yld.eqlA 4 rfl rfl rfl (by kernel_rfl) (by kernel_rfl) rfl rfl) ?_ | refine WL.yld rfl (Yld.neqA 4 rfl rfl rfl (by kernel_rfl) (by kernel_rfl) rfl rfl) ?_ | refine WL.yld rfl (Yld.quoT rfl rfl rfl rfl (by omega) nrmQ) ?_)
    | ((with_reducible refine WL.isN_pick ?_); first | refine WL.yld rfl (Yld.pickT rfl rfl rfl) ?_ | refine WL.yld rfl (Yld.pickF rfl rfl rfl) ?_ | refine WL.yld rfl (Yld.pickTh rfl rfl gdQ rfl) ?_ | refine WL.yld rfl (Yld.pickFh rfl rfl gdQ rfl) ?_ | refine WL.yld rfl (Yld.pickB rfl rfl rfl rfl) ?_)
    | ((with_reducible refine WL.isN_call ?_); first | refine WL.step rfl (StepTo.callV (v := .bool true) (us := []) rfl rfl rfl rfl rfl (by kernel_rfl) (fun w _ => shown_q w) ?_) | refine WL.step rfl (StepTo.callV (v := .bool T) (us := [.int .u16 a, .int .u16 b]) rfl rfl rfl rfl rfl (by kernel_rfl) (fun w _ => q1 w) ?_) | refine WL.step rfl (StepTo.callV (v := .bool T) (us := [.int .u16 A', .int .u16 B']) rfl rfl rfl rfl rfl (by kernel_rfl) (fun w _ => q2 w) ?_) | refine WL.step rfl (StepTo.callV (v := .int .i64 D) (us := [.int .u16 a, .int .u16 b]) rfl rfl rfl rfl rfl (by kernel_rfl) (fun w _ => q3 w) ?_) | refine WL.step rfl (StepTo.callV (v := .int .i64 D) (us := [.int .u16 A', .int .u16 B']) rfl rfl rfl rfl rfl (by kernel_rfl) (fun w _ => q4 w) ?_))
    | ((with_reducible refine WL.isT ?_); first | refine WL.skipT rfl rfl rfl rfl gdQ ?_ | refine WL.skipU rfl rfl rfl rfl ?_ | refine WL.runT rfl rfl rfl gdQ ?_)
    | ((with_reducible refine WL.isF ?_); first | refine WL.skipF rfl rfl rfl rfl gdQ ?_ | refine WL.skipU rfl rfl rfl rfl ?_ | refine WL.runF rfl rfl rfl gdQ ?_)
    | with_reducible refine WC.block ?_
    | with_reducible refine WC.scope ?_
    | with_reducible refine WC.label ?_
    | with_reducible refine WQ.ngN ?_
    | with_reducible refine WQ.ngR ?_
    | with_reducible refine WQ.ngX ?_
    | with_reducible refine WC.skip ?_
    | with_reducible refine WC.ret ?_
    | with_reducible refine WC.exit ?_
    | with_reducible refine WQ.thenR ?_
    | with_reducible refine WQ.thenX ?_
    | with_reducible refine WQ.blkN ?_
    | with_reducible refine WQ.blkR ?_
    | ((with_reducible refine WQ.blkX ?_ ?_); focus rfl)
    | ((with_reducible refine WQ.blkY ?_ ?_); focus rfl)
    | refine WC.condT rfl ?_
    | refine WC.condF rfl ?_
    | refine WC.condTh rfl gdQ ?_
    | refine WC.condFh rfl gdQ ?_
    | (refine WC.cond rfl (fun hc => ?_) (fun hc => ?_) <;> (try first | (with_reducible replace hc := of_decide_eq_true hc) | (with_reducible replace hc := of_decide_eq_false hc) | (with_reducible replace hc := eqT hc) | (with_reducible replace hc := eqF hc) | (with_reducible replace hc := neT hc) | (with_reducible replace hc := neF hc) | (with_reducible replace hc := noT hc) | (with_reducible replace hc := noF hc)) <;> (try (exfalso; omega))))
    exact WQ.body (Reads.tmp rfl rfl) fun w' hw' => ⟨by rfl, hw'.ext.below⟩
  have g1 := beqF hx0
  by_cases hy0 : Y = 0
  · have g2 := beqT hy0
    repeat' (first
    | with_reducible refine WL.nil ?_
    | with_reducible refine WQ.thenN ?_
    | with_reducible refine WQ.code ?_
    | with_reducible refine WC.seq ?_
    | with_reducible refine WC.region ?_
    | ((with_reducible refine WL.isN_move ?_); first | refine WL.yld rfl (Yld.pure rfl nrmQ) ?_)
    | ((with_reducible refine WL.isN_assign ?_); first | refine WL.yld rfl (Yld.pure rfl nrmQ) ?_)
    | ((with_reducible refine WL.isN_bin ?_); first | refine WL.yld rfl ((Yld.eqlB rfl rfl rfl rfl).to eqB_self) ?_ | refine WL.yld rfl (Yld.pure rfl eqI_self) ?_ | refine WL.yld rfl ((Yld.rem rfl rfl rfl rfl (by omega) (by omega)).to hXv) ?_ | refine WL.yld rfl ((Yld.rem rfl rfl rfl rfl (by omega) (by omega)).to hYv) ?_ | refine WL.yld rfl (Yld.pure rfl hUv) ?_ | refine WL.yld rfl (Yld.pure rfl hVv) ?_ | refine WL.yld rfl (Yld.pure rfl hAv) ?_ | refine WL.yld rfl (Yld.pure rfl hBv) ?_ | refine WL.yld rfl (Yld.pure rfl nrmQ) ?_ | refine WL.yld rfl (Yld.rem rfl rfl rfl rfl (by omega) (by omega)) ?_ | refine WL.yld rfl (Yld.quo rfl rfl rfl rfl (by omega) (by omega) nrmQ) ?_ | refine WL.yld rfl (Yld.eqlB rfl rfl rfl rfl) ?_ | refine WL.yld rfl (Yld.neqB rfl rfl rfl rfl) ?_ | refine WL.yld rfl (Yld.eqlA 4 rfl rfl rfl (by kernel_rfl) (by kernel_rfl) rfl rfl) ?_ | refine WL.yld rfl (Yld.neqA 4 rfl rfl rfl (by kernel_rfl) (by kernel_rfl) rfl rfl) ?_ | refine WL.yld rfl (Yld.quoT rfl rfl rfl rfl (by omega) nrmQ) ?_)
    | ((with_reducible refine WL.isN_pick ?_); first | refine WL.yld rfl (Yld.pickT rfl rfl rfl) ?_ | refine WL.yld rfl (Yld.pickF rfl rfl rfl) ?_ | refine WL.yld rfl (Yld.pickTh rfl rfl gdQ rfl) ?_ | refine WL.yld rfl (Yld.pickFh rfl rfl gdQ rfl) ?_ | refine WL.yld rfl (Yld.pickB rfl rfl rfl rfl) ?_)
    | ((with_reducible refine WL.isN_call ?_); first | refine WL.step rfl (StepTo.callV (v := .bool true) (us := []) rfl rfl rfl rfl rfl (by kernel_rfl) (fun w _ => shown_q w) ?_) | refine WL.step rfl (StepTo.callV (v := .bool T) (us := [.int .u16 a, .int .u16 b]) rfl rfl rfl rfl rfl (by kernel_rfl) (fun w _ => q1 w) ?_) | refine WL.step rfl (StepTo.callV (v := .bool T) (us := [.int .u16 A', .int .u16 B']) rfl rfl rfl rfl rfl (by kernel_rfl) (fun w _ => q2 w) ?_) | refine WL.step rfl (StepTo.callV (v := .int .i64 D) (us := [.int .u16 a, .int .u16 b]) rfl rfl rfl rfl rfl (by kernel_rfl) (fun w _ => q3 w) ?_) | refine WL.step rfl (StepTo.callV (v := .int .i64 D) (us := [.int .u16 A', .int .u16 B']) rfl rfl rfl rfl rfl (by kernel_rfl) (fun w _ => q4 w) ?_))
    | ((with_reducible refine WL.isT ?_); first | refine WL.skipT rfl rfl rfl rfl gdQ ?_ | refine WL.skipU rfl rfl rfl rfl ?_ | refine WL.runT rfl rfl rfl gdQ ?_)
    | ((with_reducible refine WL.isF ?_); first | refine WL.skipF rfl rfl rfl rfl gdQ ?_ | refine WL.skipU rfl rfl rfl rfl ?_ | refine WL.runF rfl rfl rfl gdQ ?_)
    | with_reducible refine WC.block ?_
    | with_reducible refine WC.scope ?_
    | with_reducible refine WC.label ?_
    | with_reducible refine WQ.ngN ?_
    | with_reducible refine WQ.ngR ?_
    | with_reducible refine WQ.ngX ?_
    | with_reducible refine WC.skip ?_
    | with_reducible refine WC.ret ?_
    | with_reducible refine WC.exit ?_
    | with_reducible refine WQ.thenR ?_
    | with_reducible refine WQ.thenX ?_
    | with_reducible refine WQ.blkN ?_
    | with_reducible refine WQ.blkR ?_
    | ((with_reducible refine WQ.blkX ?_ ?_); focus rfl)
    | ((with_reducible refine WQ.blkY ?_ ?_); focus rfl)
    | refine WC.condT rfl ?_
    | refine WC.condF rfl ?_
    | refine WC.condTh rfl gdQ ?_
    | refine WC.condFh rfl gdQ ?_
    | (refine WC.cond rfl (fun hc => ?_) (fun hc => ?_) <;> (try first | (with_reducible replace hc := of_decide_eq_true hc) | (with_reducible replace hc := of_decide_eq_false hc) | (with_reducible replace hc := eqT hc) | (with_reducible replace hc := eqF hc) | (with_reducible replace hc := neT hc) | (with_reducible replace hc := neF hc) | (with_reducible replace hc := noT hc) | (with_reducible replace hc := noF hc)) <;> (try (exfalso; omega))))
    exact WQ.body (Reads.tmp rfl rfl) fun w' hw' => ⟨by rfl, hw'.ext.below⟩
  have g2 := beqF hy0
  repeat' (first
    | with_reducible refine WL.nil ?_
    | with_reducible refine WQ.thenN ?_
    | with_reducible refine WQ.code ?_
    | with_reducible refine WC.seq ?_
    | with_reducible refine WC.region ?_
    | ((with_reducible refine WL.isN_move ?_); first | refine WL.yld rfl (Yld.pure rfl nrmQ) ?_)
    | ((with_reducible refine WL.isN_assign ?_); first | refine WL.yld rfl (Yld.pure rfl nrmQ) ?_)
    | ((with_reducible refine WL.isN_bin ?_); first | refine WL.yld rfl ((Yld.eqlB rfl rfl rfl rfl).to eqB_self) ?_ | refine WL.yld rfl (Yld.pure rfl eqI_self) ?_ | refine WL.yld rfl ((Yld.rem rfl rfl rfl rfl (by omega) (by omega)).to hXv) ?_ | refine WL.yld rfl ((Yld.rem rfl rfl rfl rfl (by omega) (by omega)).to hYv) ?_ | refine WL.yld rfl (Yld.pure rfl hUv) ?_ | refine WL.yld rfl (Yld.pure rfl hVv) ?_ | refine WL.yld rfl (Yld.pure rfl hAv) ?_ | refine WL.yld rfl (Yld.pure rfl hBv) ?_ | refine WL.yld rfl (Yld.pure rfl nrmQ) ?_ | refine WL.yld rfl (Yld.rem rfl rfl rfl rfl (by omega) (by omega)) ?_ | refine WL.yld rfl (Yld.quo rfl rfl rfl rfl (by omega) (by omega) nrmQ) ?_ | refine WL.yld rfl (Yld.eqlB rfl rfl rfl rfl) ?_ | refine WL.yld rfl (Yld.neqB rfl rfl rfl rfl) ?_ | refine WL.yld rfl (Yld.eqlA 4 rfl rfl rfl (by kernel_rfl) (by kernel_rfl) rfl rfl) ?_ | refine WL.yld rfl (Yld.neqA 4 rfl rfl rfl (by kernel_rfl) (by kernel_rfl) rfl rfl) ?_ | refine WL.yld rfl (Yld.quoT rfl rfl rfl rfl (by omega) nrmQ) ?_)
    | ((with_reducible refine WL.isN_pick ?_); first | refine WL.yld rfl (Yld.pickT rfl rfl rfl) ?_ | refine WL.yld rfl (Yld.pickF rfl rfl rfl) ?_ | refine WL.yld rfl (Yld.pickTh rfl rfl gdQ rfl) ?_ | refine WL.yld rfl (Yld.pickFh rfl rfl gdQ rfl) ?_ | refine WL.yld rfl (Yld.pickB rfl rfl rfl rfl) ?_)
    | ((with_reducible refine WL.isN_call ?_); first | refine WL.step rfl (StepTo.callV (v := .bool true) (us := []) rfl rfl rfl rfl rfl (by kernel_rfl) (fun w _ => shown_q w) ?_) | refine WL.step rfl (StepTo.callV (v := .bool T) (us := [.int .u16 a, .int .u16 b]) rfl rfl rfl rfl rfl (by kernel_rfl) (fun w _ => q1 w) ?_) | refine WL.step rfl (StepTo.callV (v := .bool T) (us := [.int .u16 A', .int .u16 B']) rfl rfl rfl rfl rfl (by kernel_rfl) (fun w _ => q2 w) ?_) | refine WL.step rfl (StepTo.callV (v := .int .i64 D) (us := [.int .u16 a, .int .u16 b]) rfl rfl rfl rfl rfl (by kernel_rfl) (fun w _ => q3 w) ?_) | refine WL.step rfl (StepTo.callV (v := .int .i64 D) (us := [.int .u16 A', .int .u16 B']) rfl rfl rfl rfl rfl (by kernel_rfl) (fun w _ => q4 w) ?_) | refine WL.step rfl (StepTo.callV (v := .bool true) (us := [.int .u16 z, .int .u16 U]) rfl rfl rfl rfl rfl (by kernel_rfl) (fun w _ => Before16_t z U _ (hc.b1 (by omega)) w) ?_) | refine WL.step rfl (StepTo.callV (v := .bool true) (us := [.int .u16 U, .int .u16 V]) rfl rfl rfl rfl rfl (by kernel_rfl) (fun w _ => Before16_t U V _ (hc.b2 (by omega)) w) ?_) | refine WL.step rfl (StepTo.callV (v := .bool true) (us := [.int .u16 z, .int .u16 V]) rfl rfl rfl rfl rfl (by kernel_rfl) (fun w _ => Before16_t z V _ (hc.b3 (by omega)) w) ?_))
    | ((with_reducible refine WL.isT ?_); first | refine WL.skipT rfl rfl rfl rfl gdQ ?_ | refine WL.skipU rfl rfl rfl rfl ?_ | refine WL.runT rfl rfl rfl gdQ ?_)
    | ((with_reducible refine WL.isF ?_); first | refine WL.skipF rfl rfl rfl rfl gdQ ?_ | refine WL.skipU rfl rfl rfl rfl ?_ | refine WL.runF rfl rfl rfl gdQ ?_)
    | with_reducible refine WC.block ?_
    | with_reducible refine WC.scope ?_
    | with_reducible refine WC.label ?_
    | with_reducible refine WQ.ngN ?_
    | with_reducible refine WQ.ngR ?_
    | with_reducible refine WQ.ngX ?_
    | with_reducible refine WC.skip ?_
    | with_reducible refine WC.ret ?_
    | with_reducible refine WC.exit ?_
    | with_reducible refine WQ.thenR ?_
    | with_reducible refine WQ.thenX ?_
    | with_reducible refine WQ.blkN ?_
    | with_reducible refine WQ.blkR ?_
    | ((with_reducible refine WQ.blkX ?_ ?_); focus rfl)
    | ((with_reducible refine WQ.blkY ?_ ?_); focus rfl)
    | refine WC.condT rfl ?_
    | refine WC.condF rfl ?_
    | refine WC.condTh rfl gdQ ?_
    | refine WC.condFh rfl gdQ ?_
    | (refine WC.cond rfl (fun hc => ?_) (fun hc => ?_) <;> (try first | (with_reducible replace hc := of_decide_eq_true hc) | (with_reducible replace hc := of_decide_eq_false hc) | (with_reducible replace hc := eqT hc) | (with_reducible replace hc := eqF hc) | (with_reducible replace hc := neT hc) | (with_reducible replace hc := neF hc) | (with_reducible replace hc := noT hc) | (with_reducible replace hc := noF hc)) <;> (try (exfalso; omega))))
  exact WQ.body (Reads.tmp rfl rfl) fun w' hw' => ⟨by rfl, hw'.ext.below⟩
end Go.Proofs.Ytgamndfgcbapgaa
