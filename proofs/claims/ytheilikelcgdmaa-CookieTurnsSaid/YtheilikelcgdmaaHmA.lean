/- A padded key, handed on byte by byte. -/
import Derived.Test.YtheilikelcgdmaaRng
import Derived.Test.YtheilikelcgdmaaHmF
import Derived.Test.YtheilikelcgdmaaShE
namespace Go.Proofs.Ytheilikelcgdmaa
open Go.RowKit
set_option linter.unusedVariables false
set_option maxRecDepth 100000

theorem J_below {β : Type} {J : β → World → Prop} {B : Nat} (hJ : AbidesFrom B J) {x : β} {w w' : World} (h : J x w) (hb : Ext (fun _ => False) w w') : J x w' :=
  hJ x w w' none h ⟨hb.os, hb.tape, hb.output, hb.size, fun k hk _ => hb.block k hk id⟩ (fun r e => by cases e)
theorem sat_vw1 {W1 : World} {B T : Nat} {v : Value} (h1 : W1.heap[B]? = some (.cells #[v] T (0, 0))) : Sat W1 (fun _ => False) [.vw (some ⟨B, 0, none⟩) 1 1 [v]] W1 := by
  refine ⟨Ext.refl, fun it hit => ?_, fun it hit hm => ?_, List.pairwise_singleton _ _⟩
  · obtain rfl := List.mem_singleton.1 hit
    refine ⟨rfl, by simp [maxLen], fun _ => ⟨B, 0, rfl, (Array.getElem?_eq_some_iff.1 h1).1, fun j u hu => ?_⟩⟩
    cases j with
    | zero => simp only [List.getElem?_cons_zero, Option.some.injEq] at hu; subst hu; simp [World.cell?, h1]
    | succ j => simp at hu
  · obtain rfl := List.mem_singleton.1 hit
    cases hm
set_option maxHeartbeats 4000000 in
theorem pad_stops (B m : Nat) (k : List UInt8) (hk : k.length ≤ 4611686018427387904) (w : World) (hB : w.heap[B]? = some (.cells #[.string (bs k)] 9 (0, 0))) :
    SeqStopsK Fence.wide m Try.prog 45 #[.pointer (some ⟨B, 0, none⟩)] kEnc (Ext fun b => b ≠ B) (fun xs => xs = kUp k 64) (fun _ => True) 64 w := by
  intro l J Jx W hW hJ hJx hY h0
  have hlt : B < w.heap.size := (Array.getElem?_eq_some_iff.1 hB).1
  have hBW := (hW.block B hlt).trans hB
  have hv : ∀ W1 : World, W1.heap[B]? = some (.cells #[.string (bs k)] 9 (0, 0)) → Sat W1 (fun _ => False) [.vw (some ⟨B, 0, none⟩) 1 1 [.string (bs k)]] W1 := fun W1 h1 =>
    sat_vw1 h1
  have hS := hv W hBW
  refine callsIn_wide.2 ?_
  show Calls Try.prog 45 [Value.func (.yield l) #[] #[], .pointer (some ⟨B, 0, none⟩)].toArray W _
  refine enterM _ _ hS Try.func45 rfl (by simp only [Try.ntmps45, List.length_cons, List.length_nil, Nat.reduceAdd, Nat.reduceSub]; rfl) ?_
  refine WC.ofF (m := m) ?_
  repeat' (first
    | with_reducible refine WFL.nil ?_
    | with_reducible refine WQ.thenN ?_
    | with_reducible refine WQ.codeF ?_
    | with_reducible refine WF.seq ?_
    | with_reducible refine WF.region ?_
    | ((with_reducible refine WFL.isN_move ?_); first | refine WFL.yld rfl (Yld.pure rfl nrmQ) ?_)
    | ((with_reducible refine WFL.isN_assign ?_); first | refine WFL.yld rfl (Yld.pure rfl nrmQ) ?_)
    | ((with_reducible refine WFL.isN_bin ?_); first | refine WFL.yld rfl (Yld.pure rfl nrmQ) ?_ | refine WFL.yld rfl (Yld.rem rfl rfl rfl rfl (by omega) (by omega)) ?_ | refine WFL.yld rfl (Yld.quo rfl rfl rfl rfl (by omega) (by omega) nrmQ) ?_ | refine WFL.yld rfl (Yld.eqlB rfl rfl rfl rfl) ?_ | refine WFL.yld rfl (Yld.neqB rfl rfl rfl rfl) ?_ | refine WFL.yld rfl (Yld.eqlA 4 rfl rfl rfl (by kernel_rfl) (by kernel_rfl) rfl rfl) ?_ | refine WFL.yld rfl (Yld.neqA 4 rfl rfl rfl (by kernel_rfl) (by kernel_rfl) rfl rfl) ?_ | refine WFL.yld rfl (Yld.quoT rfl rfl rfl rfl (by omega) nrmQ) ?_)
    | ((with_reducible refine WFL.isN_un ?_); first | refine WFL.yld rfl (Yld.pure rfl nrmQ) ?_)
    | ((with_reducible refine WFL.isN_load ?_); first | refine WFL.yld rfl (Yld.load rfl rfl rfl rfl cellQ) ?_ | refine WFL.yld rfl (Yld.loadAgg rfl rfl rfl rfl rfl aggQ) ?_)
    | ((with_reducible refine WFL.isN_call ?_); first | refine WFL.yld rfl (Yld.lenSlice rfl rfl rfl) ?_ | refine WFL.yld rfl (Yld.lenStr rfl rfl rfl) ?_)
    | ((with_reducible refine WFL.isN_index ?_); first | refine WFL.yld rfl (Yld.indexStr _ rfl rfl rfl rfl rfl (by assumption)) ?_)
    | with_reducible refine WF.block ?_
    | with_reducible refine WF.scope ?_
    | with_reducible refine WF.label ?_
    | with_reducible refine WQ.ngN ?_
    | with_reducible refine WQ.ngR ?_
    | with_reducible refine WQ.ngX ?_
    | with_reducible refine WF.skip ?_
    | with_reducible refine WF.ret ?_
    | with_reducible refine WF.exit ?_
    | with_reducible refine WQ.thenR ?_
    | with_reducible refine WQ.thenX ?_
    | with_reducible refine WQ.blkN ?_
    | with_reducible refine WQ.blkR ?_
    | ((with_reducible refine WQ.blkX ?_ ?_); focus rfl)
    | ((with_reducible refine WQ.blkY ?_ ?_); focus rfl)
    | refine WF.condT rfl ?_
    | refine WF.condF rfl ?_
    | refine WF.condTh rfl gdQ ?_
    | refine WF.condFh rfl gdQ ?_
    | (refine WF.cond rfl (fun hc => ?_) (fun hc => ?_) <;> (try first | (with_reducible replace hc := of_decide_eq_true hc) | (with_reducible replace hc := of_decide_eq_false hc) | (with_reducible replace hc := eqT hc) | (with_reducible replace hc := eqF hc) | (with_reducible replace hc := neT hc) | (with_reducible replace hc := neF hc) | (with_reducible replace hc := noT hc) | (with_reducible replace hc := noF hc)) <;> (try (exfalso; omega))))
  refine WF.loopW (fun kk w1 τ H => ∃ i, i ≤ 64 ∧ kk = 64 - i ∧ J (kUp k i) w1 ∧ w1.heap[B]? = some (.cells #[.string (bs k)] 9 (0, 0)) ∧
    τ = [(0, .func (.yield l) #[] #[]), (1, .pointer (some ⟨B, 0, none⟩)), (5, .int .i64 (i : Nat))] ∧ H = [.vw (some ⟨B, 0, none⟩) 1 1 [.string (bs k)]]) 64 _ _ [0] ?_ ?_ ⟨0, by omega, rfl, h0, hBW, rfl, rfl⟩ ?_
  · exact (by repeat (first | exact Sub.nil | refine Sub.cons rfl ?_ | refine Sub.consE rfl (int_eq (by omega)) ?_))
  · exact ⟨by decide, rfl⟩
  rintro kk w1 τ H ⟨i, hi, rfl, hJi, hB1, rfl, rfl⟩
  by_cases h64 : i < 64
  · have hYi : ∀ W1, Sat w1 (fun _ => False) [.vw (some ⟨B, 0, none⟩) 1 1 [.string (bs k)]] W1 → YieldAt Fence.wide (m - 1) Try.prog l (kEnc ⟨(i, k.getD i 0), h64⟩) W1 fun e W' =>
        (e = .returned (.bool true) ∧ J (kUp k (i + 1)) W' ∧ W'.heap[B]? = some (.cells #[.string (bs k)] 9 (0, 0))) ∨ (e = .returned (.bool false) ∧ Jx (kUp k (i + 1)) W') := fun W1 hW1 => by
      obtain ⟨fn, tmps, asg, bd, hy, hr⟩ := hY (kUp k i) ⟨(i, k.getD i 0), h64⟩ W1 (J_below hJ hJi hW1.ext) (by rw [kUp_len k i hi]; exact h64)
      refine ⟨fn, tmps, asg, bd, hy, hr.mono ?_⟩
      have hb1 : B < W1.heap.size := Nat.lt_of_lt_of_le (Array.getElem?_eq_some_iff.1 hB1).1 hW1.size
      rintro e W' (⟨rfl, h1, h2⟩ | ⟨rfl, h1⟩)
      · exact .inl ⟨rfl, by rw [kUp_next k h64]; exact h1, (h2.block B hb1 (by simp)).trans ((hW1.ext.block B (Array.getElem?_eq_some_iff.1 hB1).1 id).trans hB1)⟩
      · exact .inr ⟨rfl, by rw [kUp_next k h64]; exact h1⟩
    generalize hc : k.getD i 0 = c at hYi
    by_cases hik : i < k.length
    · have hkc : k[i]? = some c := by rw [List.getD_eq_getElem?_getD, List.getElem?_eq_getElem hik] at hc; rw [List.getElem?_eq_getElem hik]; simpa using hc
      repeat' (first
    | with_reducible refine WFL.nil ?_
    | with_reducible refine WQ.thenN ?_
    | with_reducible refine WQ.codeF ?_
    | with_reducible refine WF.seq ?_
    | with_reducible refine WF.region ?_
    | ((with_reducible refine WFL.isN_move ?_); first | refine WFL.yld rfl (Yld.pure rfl nrmQ) ?_)
    | ((with_reducible refine WFL.isN_assign ?_); first | refine WFL.yld rfl (Yld.pure rfl nrmQ) ?_)
    | ((with_reducible refine WFL.isN_bin ?_); first | refine WFL.yld rfl (Yld.pure rfl nrmQ) ?_ | refine WFL.yld rfl (Yld.rem rfl rfl rfl rfl (by omega) (by omega)) ?_ | refine WFL.yld rfl (Yld.quo rfl rfl rfl rfl (by omega) (by omega) nrmQ) ?_ | refine WFL.yld rfl (Yld.eqlB rfl rfl rfl rfl) ?_ | refine WFL.yld rfl (Yld.neqB rfl rfl rfl rfl) ?_ | refine WFL.yld rfl (Yld.eqlA 4 rfl rfl rfl (by kernel_rfl) (by kernel_rfl) rfl rfl) ?_ | refine WFL.yld rfl (Yld.neqA 4 rfl rfl rfl (by kernel_rfl) (by kernel_rfl) rfl rfl) ?_ | refine WFL.yld rfl (Yld.quoT rfl rfl rfl rfl (by omega) nrmQ) ?_)
    | ((with_reducible refine WFL.isN_un ?_); first | refine WFL.yld rfl (Yld.pure rfl nrmQ) ?_)
    | ((with_reducible refine WFL.isN_load ?_); first | refine WFL.yld rfl (Yld.load rfl rfl rfl rfl (CellAt.vwE (q := 0) 0 rfl rfl rfl)) ?_ | refine WFL.yld rfl (Yld.load rfl rfl rfl rfl cellQ) ?_ | refine WFL.yld rfl (Yld.loadAgg rfl rfl rfl rfl rfl aggQ) ?_)
    | ((with_reducible refine WFL.isN_call ?_); first | refine WFL.yld rfl (Yld.lenB rfl rfl rfl) ?_ | refine WFL.yield (R := fun _ e W' => (e = .returned (.bool true) ∧ J (kUp k (i + 1)) W' ∧ W'.heap[B]? = some (.cells #[.string (bs k)] 9 (0, 0))) ∨ (e = .returned (.bool false) ∧ Jx (kUp k (i + 1)) W')) rfl rfl rfl hYi ?_ | refine WFL.yld rfl (Yld.lenSlice rfl rfl rfl) ?_ | refine WFL.yld rfl (Yld.lenStr rfl rfl rfl) ?_)
    | ((with_reducible refine WFL.isN_index ?_); first | refine WFL.yld rfl (Yld.indexB i rfl rfl rfl rfl rfl hkc) ?_ | refine WFL.yld rfl (Yld.indexStr _ rfl rfl rfl rfl rfl (by assumption)) ?_)
    | with_reducible refine WF.block ?_
    | with_reducible refine WF.scope ?_
    | with_reducible refine WF.label ?_
    | with_reducible refine WQ.ngN ?_
    | with_reducible refine WQ.ngR ?_
    | with_reducible refine WQ.ngX ?_
    | with_reducible refine WF.skip ?_
    | with_reducible refine WF.ret ?_
    | with_reducible refine WF.exit ?_
    | with_reducible refine WQ.thenR ?_
    | with_reducible refine WQ.thenX ?_
    | with_reducible refine WQ.blkN ?_
    | with_reducible refine WQ.blkR ?_
    | ((with_reducible refine WQ.blkX ?_ ?_); focus rfl)
    | ((with_reducible refine WQ.blkY ?_ ?_); focus rfl)
    | refine WF.condT rfl ?_
    | refine WF.condF rfl ?_
    | refine WF.condTh rfl gdQ ?_
    | refine WF.condFh rfl gdQ ?_
    | (refine WF.cond rfl (fun hc => ?_) (fun hc => ?_) <;> (try first | (with_reducible replace hc := of_decide_eq_true hc) | (with_reducible replace hc := of_decide_eq_false hc) | (with_reducible replace hc := eqT hc) | (with_reducible replace hc := eqF hc) | (with_reducible replace hc := neT hc) | (with_reducible replace hc := neF hc) | (with_reducible replace hc := noT hc) | (with_reducible replace hc := noF hc)) <;> (try (exfalso; omega))))
      rintro w2 e w3 hw2 (⟨rfl, hJ3, hB3⟩ | ⟨rfl, hJ3⟩)
      · refine ⟨_, _, rfl, sat_vw1 hB3, ?_⟩
        repeat' (first
    | with_reducible refine WFL.nil ?_
    | with_reducible refine WQ.thenN ?_
    | with_reducible refine WQ.codeF ?_
    | with_reducible refine WF.seq ?_
    | with_reducible refine WF.region ?_
    | ((with_reducible refine WFL.isN_move ?_); first | refine WFL.yld rfl (Yld.pure rfl nrmQ) ?_)
    | ((with_reducible refine WFL.isN_assign ?_); first | refine WFL.yld rfl (Yld.pure rfl nrmQ) ?_)
    | ((with_reducible refine WFL.isN_bin ?_); first | refine WFL.yld rfl (Yld.pure rfl nrmQ) ?_ | refine WFL.yld rfl (Yld.rem rfl rfl rfl rfl (by omega) (by omega)) ?_ | refine WFL.yld rfl (Yld.quo rfl rfl rfl rfl (by omega) (by omega) nrmQ) ?_ | refine WFL.yld rfl (Yld.eqlB rfl rfl rfl rfl) ?_ | refine WFL.yld rfl (Yld.neqB rfl rfl rfl rfl) ?_ | refine WFL.yld rfl (Yld.eqlA 4 rfl rfl rfl (by kernel_rfl) (by kernel_rfl) rfl rfl) ?_ | refine WFL.yld rfl (Yld.neqA 4 rfl rfl rfl (by kernel_rfl) (by kernel_rfl) rfl rfl) ?_ | refine WFL.yld rfl (Yld.quoT rfl rfl rfl rfl (by omega) nrmQ) ?_)
    | ((with_reducible refine WFL.isN_un ?_); first | refine WFL.yld rfl (Yld.pure rfl nrmQ) ?_)
    | ((with_reducible refine WFL.isN_load ?_); first | refine WFL.yld rfl (Yld.load rfl rfl rfl rfl cellQ) ?_ | refine WFL.yld rfl (Yld.loadAgg rfl rfl rfl rfl rfl aggQ) ?_)
    | ((with_reducible refine WFL.isN_call ?_); first | refine WFL.yld rfl (Yld.lenSlice rfl rfl rfl) ?_ | refine WFL.yld rfl (Yld.lenStr rfl rfl rfl) ?_)
    | ((with_reducible refine WFL.isN_index ?_); first | refine WFL.yld rfl (Yld.indexStr _ rfl rfl rfl rfl rfl (by assumption)) ?_)
    | with_reducible refine WF.block ?_
    | with_reducible refine WF.scope ?_
    | with_reducible refine WF.label ?_
    | with_reducible refine WQ.ngN ?_
    | with_reducible refine WQ.ngR ?_
    | with_reducible refine WQ.ngX ?_
    | with_reducible refine WF.skip ?_
    | with_reducible refine WF.ret ?_
    | with_reducible refine WF.exit ?_
    | with_reducible refine WQ.thenR ?_
    | with_reducible refine WQ.thenX ?_
    | with_reducible refine WQ.blkN ?_
    | with_reducible refine WQ.blkR ?_
    | ((with_reducible refine WQ.blkX ?_ ?_); focus rfl)
    | ((with_reducible refine WQ.blkY ?_ ?_); focus rfl)
    | refine WF.condT rfl ?_
    | refine WF.condF rfl ?_
    | refine WF.condTh rfl gdQ ?_
    | refine WF.condFh rfl gdQ ?_
    | (refine WF.cond rfl (fun hc => ?_) (fun hc => ?_) <;> (try first | (with_reducible replace hc := of_decide_eq_true hc) | (with_reducible replace hc := of_decide_eq_false hc) | (with_reducible replace hc := eqT hc) | (with_reducible replace hc := eqF hc) | (with_reducible replace hc := neT hc) | (with_reducible replace hc := neF hc) | (with_reducible replace hc := noT hc) | (with_reducible replace hc := noF hc)) <;> (try (exfalso; omega))))
        exact WQ.rndW (64 - (i + 1)) _ _ [0] (by repeat (first | exact Sub.nil | refine Sub.cons rfl ?_ | refine Sub.consE rfl (int_eq (by omega)) ?_)) ⟨by decide, rfl⟩ (by omega) ⟨i + 1, by omega, rfl, hJ3, hB3, rfl, rfl⟩
      · refine ⟨_, _, rfl, Sat.start _ _, ?_⟩
        repeat' (first
    | with_reducible refine WFL.nil ?_
    | with_reducible refine WQ.thenN ?_
    | with_reducible refine WQ.codeF ?_
    | with_reducible refine WF.seq ?_
    | with_reducible refine WF.region ?_
    | ((with_reducible refine WFL.isN_move ?_); first | refine WFL.yld rfl (Yld.pure rfl nrmQ) ?_)
    | ((with_reducible refine WFL.isN_assign ?_); first | refine WFL.yld rfl (Yld.pure rfl nrmQ) ?_)
    | ((with_reducible refine WFL.isN_bin ?_); first | refine WFL.yld rfl (Yld.pure rfl nrmQ) ?_ | refine WFL.yld rfl (Yld.rem rfl rfl rfl rfl (by omega) (by omega)) ?_ | refine WFL.yld rfl (Yld.quo rfl rfl rfl rfl (by omega) (by omega) nrmQ) ?_ | refine WFL.yld rfl (Yld.eqlB rfl rfl rfl rfl) ?_ | refine WFL.yld rfl (Yld.neqB rfl rfl rfl rfl) ?_ | refine WFL.yld rfl (Yld.eqlA 4 rfl rfl rfl (by kernel_rfl) (by kernel_rfl) rfl rfl) ?_ | refine WFL.yld rfl (Yld.neqA 4 rfl rfl rfl (by kernel_rfl) (by kernel_rfl) rfl rfl) ?_ | refine WFL.yld rfl (Yld.quoT rfl rfl rfl rfl (by omega) nrmQ) ?_)
    | ((with_reducible refine WFL.isN_un ?_); first | refine WFL.yld rfl (Yld.pure rfl nrmQ) ?_)
    | ((with_reducible refine WFL.isN_load ?_); first | refine WFL.yld rfl (Yld.load rfl rfl rfl rfl cellQ) ?_ | refine WFL.yld rfl (Yld.loadAgg rfl rfl rfl rfl rfl aggQ) ?_)
    | ((with_reducible refine WFL.isN_call ?_); first | refine WFL.yld rfl (Yld.lenSlice rfl rfl rfl) ?_ | refine WFL.yld rfl (Yld.lenStr rfl rfl rfl) ?_)
    | ((with_reducible refine WFL.isN_index ?_); first | refine WFL.yld rfl (Yld.indexStr _ rfl rfl rfl rfl rfl (by assumption)) ?_)
    | with_reducible refine WF.block ?_
    | with_reducible refine WF.scope ?_
    | with_reducible refine WF.label ?_
    | with_reducible refine WQ.ngN ?_
    | with_reducible refine WQ.ngR ?_
    | with_reducible refine WQ.ngX ?_
    | with_reducible refine WF.skip ?_
    | with_reducible refine WF.ret ?_
    | with_reducible refine WF.exit ?_
    | with_reducible refine WQ.thenR ?_
    | with_reducible refine WQ.thenX ?_
    | with_reducible refine WQ.blkN ?_
    | with_reducible refine WQ.blkR ?_
    | ((with_reducible refine WQ.blkX ?_ ?_); focus rfl)
    | ((with_reducible refine WQ.blkY ?_ ?_); focus rfl)
    | refine WF.condT rfl ?_
    | refine WF.condF rfl ?_
    | refine WF.condTh rfl gdQ ?_
    | refine WF.condFh rfl gdQ ?_
    | (refine WF.cond rfl (fun hc => ?_) (fun hc => ?_) <;> (try first | (with_reducible replace hc := of_decide_eq_true hc) | (with_reducible replace hc := of_decide_eq_false hc) | (with_reducible replace hc := eqT hc) | (with_reducible replace hc := eqF hc) | (with_reducible replace hc := neT hc) | (with_reducible replace hc := neF hc) | (with_reducible replace hc := noT hc) | (with_reducible replace hc := noF hc)) <;> (try (exfalso; omega))))
        exact WQ.body (Reads.none rfl) fun w' hw' => ⟨⟨_, rfl⟩, .inr ⟨_, trivial, J_below hJx hJ3 hw'.ext⟩⟩
    · have hc0 : bv c = .int .u8 0 := by
        rw [List.getD_eq_getElem?_getD, List.getElem?_eq_none (by omega)] at hc
        subst hc; rfl
      have hc1 : Value.int .u8 0 = bv c := hc0.symm
      repeat' (first
    | with_reducible refine WFL.nil ?_
    | with_reducible refine WQ.thenN ?_
    | with_reducible refine WQ.codeF ?_
    | with_reducible refine WF.seq ?_
    | with_reducible refine WF.region ?_
    | ((with_reducible refine WFL.isN_move ?_); first | refine WFL.yld rfl (Yld.pure rfl nrmQ) ?_)
    | ((with_reducible refine WFL.isN_assign ?_); first | refine WFL.yld rfl (Yld.as (Yld.pure rfl rfl) hc1) ?_ | refine WFL.yld rfl (Yld.pure rfl nrmQ) ?_)
    | ((with_reducible refine WFL.isN_bin ?_); first | refine WFL.yld rfl (Yld.pure rfl nrmQ) ?_ | refine WFL.yld rfl (Yld.rem rfl rfl rfl rfl (by omega) (by omega)) ?_ | refine WFL.yld rfl (Yld.quo rfl rfl rfl rfl (by omega) (by omega) nrmQ) ?_ | refine WFL.yld rfl (Yld.eqlB rfl rfl rfl rfl) ?_ | refine WFL.yld rfl (Yld.neqB rfl rfl rfl rfl) ?_ | refine WFL.yld rfl (Yld.eqlA 4 rfl rfl rfl (by kernel_rfl) (by kernel_rfl) rfl rfl) ?_ | refine WFL.yld rfl (Yld.neqA 4 rfl rfl rfl (by kernel_rfl) (by kernel_rfl) rfl rfl) ?_ | refine WFL.yld rfl (Yld.quoT rfl rfl rfl rfl (by omega) nrmQ) ?_)
    | ((with_reducible refine WFL.isN_un ?_); first | refine WFL.yld rfl (Yld.pure rfl nrmQ) ?_)
    | ((with_reducible refine WFL.isN_load ?_); first | refine WFL.yld rfl (Yld.load rfl rfl rfl rfl (CellAt.vwE (q := 0) 0 rfl rfl rfl)) ?_ | refine WFL.yld rfl (Yld.load rfl rfl rfl rfl cellQ) ?_ | refine WFL.yld rfl (Yld.loadAgg rfl rfl rfl rfl rfl aggQ) ?_)
    | ((with_reducible refine WFL.isN_call ?_); first | refine WFL.yld rfl (Yld.lenB rfl rfl rfl) ?_ | refine WFL.yield (R := fun _ e W' => (e = .returned (.bool true) ∧ J (kUp k (i + 1)) W' ∧ W'.heap[B]? = some (.cells #[.string (bs k)] 9 (0, 0))) ∨ (e = .returned (.bool false) ∧ Jx (kUp k (i + 1)) W')) rfl rfl rfl hYi ?_ | refine WFL.yld rfl (Yld.lenSlice rfl rfl rfl) ?_ | refine WFL.yld rfl (Yld.lenStr rfl rfl rfl) ?_)
    | ((with_reducible refine WFL.isN_index ?_); first | refine WFL.yld rfl (Yld.indexStr _ rfl rfl rfl rfl rfl (by assumption)) ?_)
    | with_reducible refine WF.block ?_
    | with_reducible refine WF.scope ?_
    | with_reducible refine WF.label ?_
    | with_reducible refine WQ.ngN ?_
    | with_reducible refine WQ.ngR ?_
    | with_reducible refine WQ.ngX ?_
    | with_reducible refine WF.skip ?_
    | with_reducible refine WF.ret ?_
    | with_reducible refine WF.exit ?_
    | with_reducible refine WQ.thenR ?_
    | with_reducible refine WQ.thenX ?_
    | with_reducible refine WQ.blkN ?_
    | with_reducible refine WQ.blkR ?_
    | ((with_reducible refine WQ.blkX ?_ ?_); focus rfl)
    | ((with_reducible refine WQ.blkY ?_ ?_); focus rfl)
    | refine WF.condT rfl ?_
    | refine WF.condF rfl ?_
    | refine WF.condTh rfl gdQ ?_
    | refine WF.condFh rfl gdQ ?_
    | (refine WF.cond rfl (fun hc => ?_) (fun hc => ?_) <;> (try first | (with_reducible replace hc := of_decide_eq_true hc) | (with_reducible replace hc := of_decide_eq_false hc) | (with_reducible replace hc := eqT hc) | (with_reducible replace hc := eqF hc) | (with_reducible replace hc := neT hc) | (with_reducible replace hc := neF hc) | (with_reducible replace hc := noT hc) | (with_reducible replace hc := noF hc)) <;> (try (exfalso; omega))))
      rintro w2 e w3 hw2 (⟨rfl, hJ3, hB3⟩ | ⟨rfl, hJ3⟩)
      · refine ⟨_, _, rfl, sat_vw1 hB3, ?_⟩
        repeat' (first
    | with_reducible refine WFL.nil ?_
    | with_reducible refine WQ.thenN ?_
    | with_reducible refine WQ.codeF ?_
    | with_reducible refine WF.seq ?_
    | with_reducible refine WF.region ?_
    | ((with_reducible refine WFL.isN_move ?_); first | refine WFL.yld rfl (Yld.pure rfl nrmQ) ?_)
    | ((with_reducible refine WFL.isN_assign ?_); first | refine WFL.yld rfl (Yld.pure rfl nrmQ) ?_)
    | ((with_reducible refine WFL.isN_bin ?_); first | refine WFL.yld rfl (Yld.pure rfl nrmQ) ?_ | refine WFL.yld rfl (Yld.rem rfl rfl rfl rfl (by omega) (by omega)) ?_ | refine WFL.yld rfl (Yld.quo rfl rfl rfl rfl (by omega) (by omega) nrmQ) ?_ | refine WFL.yld rfl (Yld.eqlB rfl rfl rfl rfl) ?_ | refine WFL.yld rfl (Yld.neqB rfl rfl rfl rfl) ?_ | refine WFL.yld rfl (Yld.eqlA 4 rfl rfl rfl (by kernel_rfl) (by kernel_rfl) rfl rfl) ?_ | refine WFL.yld rfl (Yld.neqA 4 rfl rfl rfl (by kernel_rfl) (by kernel_rfl) rfl rfl) ?_ | refine WFL.yld rfl (Yld.quoT rfl rfl rfl rfl (by omega) nrmQ) ?_)
    | ((with_reducible refine WFL.isN_un ?_); first | refine WFL.yld rfl (Yld.pure rfl nrmQ) ?_)
    | ((with_reducible refine WFL.isN_load ?_); first | refine WFL.yld rfl (Yld.load rfl rfl rfl rfl cellQ) ?_ | refine WFL.yld rfl (Yld.loadAgg rfl rfl rfl rfl rfl aggQ) ?_)
    | ((with_reducible refine WFL.isN_call ?_); first | refine WFL.yld rfl (Yld.lenSlice rfl rfl rfl) ?_ | refine WFL.yld rfl (Yld.lenStr rfl rfl rfl) ?_)
    | ((with_reducible refine WFL.isN_index ?_); first | refine WFL.yld rfl (Yld.indexStr _ rfl rfl rfl rfl rfl (by assumption)) ?_)
    | with_reducible refine WF.block ?_
    | with_reducible refine WF.scope ?_
    | with_reducible refine WF.label ?_
    | with_reducible refine WQ.ngN ?_
    | with_reducible refine WQ.ngR ?_
    | with_reducible refine WQ.ngX ?_
    | with_reducible refine WF.skip ?_
    | with_reducible refine WF.ret ?_
    | with_reducible refine WF.exit ?_
    | with_reducible refine WQ.thenR ?_
    | with_reducible refine WQ.thenX ?_
    | with_reducible refine WQ.blkN ?_
    | with_reducible refine WQ.blkR ?_
    | ((with_reducible refine WQ.blkX ?_ ?_); focus rfl)
    | ((with_reducible refine WQ.blkY ?_ ?_); focus rfl)
    | refine WF.condT rfl ?_
    | refine WF.condF rfl ?_
    | refine WF.condTh rfl gdQ ?_
    | refine WF.condFh rfl gdQ ?_
    | (refine WF.cond rfl (fun hc => ?_) (fun hc => ?_) <;> (try first | (with_reducible replace hc := of_decide_eq_true hc) | (with_reducible replace hc := of_decide_eq_false hc) | (with_reducible replace hc := eqT hc) | (with_reducible replace hc := eqF hc) | (with_reducible replace hc := neT hc) | (with_reducible replace hc := neF hc) | (with_reducible replace hc := noT hc) | (with_reducible replace hc := noF hc)) <;> (try (exfalso; omega))))
        exact WQ.rndW (64 - (i + 1)) _ _ [0] (by repeat (first | exact Sub.nil | refine Sub.cons rfl ?_ | refine Sub.consE rfl (int_eq (by omega)) ?_)) ⟨by decide, rfl⟩ (by omega) ⟨i + 1, by omega, rfl, hJ3, hB3, rfl, rfl⟩
      · refine ⟨_, _, rfl, Sat.start _ _, ?_⟩
        repeat' (first
    | with_reducible refine WFL.nil ?_
    | with_reducible refine WQ.thenN ?_
    | with_reducible refine WQ.codeF ?_
    | with_reducible refine WF.seq ?_
    | with_reducible refine WF.region ?_
    | ((with_reducible refine WFL.isN_move ?_); first | refine WFL.yld rfl (Yld.pure rfl nrmQ) ?_)
    | ((with_reducible refine WFL.isN_assign ?_); first | refine WFL.yld rfl (Yld.pure rfl nrmQ) ?_)
    | ((with_reducible refine WFL.isN_bin ?_); first | refine WFL.yld rfl (Yld.pure rfl nrmQ) ?_ | refine WFL.yld rfl (Yld.rem rfl rfl rfl rfl (by omega) (by omega)) ?_ | refine WFL.yld rfl (Yld.quo rfl rfl rfl rfl (by omega) (by omega) nrmQ) ?_ | refine WFL.yld rfl (Yld.eqlB rfl rfl rfl rfl) ?_ | refine WFL.yld rfl (Yld.neqB rfl rfl rfl rfl) ?_ | refine WFL.yld rfl (Yld.eqlA 4 rfl rfl rfl (by kernel_rfl) (by kernel_rfl) rfl rfl) ?_ | refine WFL.yld rfl (Yld.neqA 4 rfl rfl rfl (by kernel_rfl) (by kernel_rfl) rfl rfl) ?_ | refine WFL.yld rfl (Yld.quoT rfl rfl rfl rfl (by omega) nrmQ) ?_)
    | ((with_reducible refine WFL.isN_un ?_); first | refine WFL.yld rfl (Yld.pure rfl nrmQ) ?_)
    | ((with_reducible refine WFL.isN_load ?_); first | refine WFL.yld rfl (Yld.load rfl rfl rfl rfl cellQ) ?_ | refine WFL.yld rfl (Yld.loadAgg rfl rfl rfl rfl rfl aggQ) ?_)
    | ((with_reducible refine WFL.isN_call ?_); first | refine WFL.yld rfl (Yld.lenSlice rfl rfl rfl) ?_ | refine WFL.yld rfl (Yld.lenStr rfl rfl rfl) ?_)
    | ((with_reducible refine WFL.isN_index ?_); first | refine WFL.yld rfl (Yld.indexStr _ rfl rfl rfl rfl rfl (by assumption)) ?_)
    | with_reducible refine WF.block ?_
    | with_reducible refine WF.scope ?_
    | with_reducible refine WF.label ?_
    | with_reducible refine WQ.ngN ?_
    | with_reducible refine WQ.ngR ?_
    | with_reducible refine WQ.ngX ?_
    | with_reducible refine WF.skip ?_
    | with_reducible refine WF.ret ?_
    | with_reducible refine WF.exit ?_
    | with_reducible refine WQ.thenR ?_
    | with_reducible refine WQ.thenX ?_
    | with_reducible refine WQ.blkN ?_
    | with_reducible refine WQ.blkR ?_
    | ((with_reducible refine WQ.blkX ?_ ?_); focus rfl)
    | ((with_reducible refine WQ.blkY ?_ ?_); focus rfl)
    | refine WF.condT rfl ?_
    | refine WF.condF rfl ?_
    | refine WF.condTh rfl gdQ ?_
    | refine WF.condFh rfl gdQ ?_
    | (refine WF.cond rfl (fun hc => ?_) (fun hc => ?_) <;> (try first | (with_reducible replace hc := of_decide_eq_true hc) | (with_reducible replace hc := of_decide_eq_false hc) | (with_reducible replace hc := eqT hc) | (with_reducible replace hc := eqF hc) | (with_reducible replace hc := neT hc) | (with_reducible replace hc := neF hc) | (with_reducible replace hc := noT hc) | (with_reducible replace hc := noF hc)) <;> (try (exfalso; omega))))
        exact WQ.body (Reads.none rfl) fun w' hw' => ⟨⟨_, rfl⟩, .inr ⟨_, trivial, J_below hJx hJ3 hw'.ext⟩⟩
  obtain rfl : i = 64 := by omega
  repeat' (first
    | with_reducible refine WFL.nil ?_
    | with_reducible refine WQ.thenN ?_
    | with_reducible refine WQ.codeF ?_
    | with_reducible refine WF.seq ?_
    | with_reducible refine WF.region ?_
    | ((with_reducible refine WFL.isN_move ?_); first | refine WFL.yld rfl (Yld.pure rfl nrmQ) ?_)
    | ((with_reducible refine WFL.isN_assign ?_); first | refine WFL.yld rfl (Yld.pure rfl nrmQ) ?_)
    | ((with_reducible refine WFL.isN_bin ?_); first | refine WFL.yld rfl (Yld.pure rfl nrmQ) ?_ | refine WFL.yld rfl (Yld.rem rfl rfl rfl rfl (by omega) (by omega)) ?_ | refine WFL.yld rfl (Yld.quo rfl rfl rfl rfl (by omega) (by omega) nrmQ) ?_ | refine WFL.yld rfl (Yld.eqlB rfl rfl rfl rfl) ?_ | refine WFL.yld rfl (Yld.neqB rfl rfl rfl rfl) ?_ | refine WFL.yld rfl (Yld.eqlA 4 rfl rfl rfl (by kernel_rfl) (by kernel_rfl) rfl rfl) ?_ | refine WFL.yld rfl (Yld.neqA 4 rfl rfl rfl (by kernel_rfl) (by kernel_rfl) rfl rfl) ?_ | refine WFL.yld rfl (Yld.quoT rfl rfl rfl rfl (by omega) nrmQ) ?_)
    | ((with_reducible refine WFL.isN_un ?_); first | refine WFL.yld rfl (Yld.pure rfl nrmQ) ?_)
    | ((with_reducible refine WFL.isN_load ?_); first | refine WFL.yld rfl (Yld.load rfl rfl rfl rfl cellQ) ?_ | refine WFL.yld rfl (Yld.loadAgg rfl rfl rfl rfl rfl aggQ) ?_)
    | ((with_reducible refine WFL.isN_call ?_); first | refine WFL.yld rfl (Yld.lenSlice rfl rfl rfl) ?_ | refine WFL.yld rfl (Yld.lenStr rfl rfl rfl) ?_)
    | ((with_reducible refine WFL.isN_index ?_); first | refine WFL.yld rfl (Yld.indexStr _ rfl rfl rfl rfl rfl (by assumption)) ?_)
    | with_reducible refine WF.block ?_
    | with_reducible refine WF.scope ?_
    | with_reducible refine WF.label ?_
    | with_reducible refine WQ.ngN ?_
    | with_reducible refine WQ.ngR ?_
    | with_reducible refine WQ.ngX ?_
    | with_reducible refine WF.skip ?_
    | with_reducible refine WF.ret ?_
    | with_reducible refine WF.exit ?_
    | with_reducible refine WQ.thenR ?_
    | with_reducible refine WQ.thenX ?_
    | with_reducible refine WQ.blkN ?_
    | with_reducible refine WQ.blkR ?_
    | ((with_reducible refine WQ.blkX ?_ ?_); focus rfl)
    | ((with_reducible refine WQ.blkY ?_ ?_); focus rfl)
    | refine WF.condT rfl ?_
    | refine WF.condF rfl ?_
    | refine WF.condTh rfl gdQ ?_
    | refine WF.condFh rfl gdQ ?_
    | (refine WF.cond rfl (fun hc => ?_) (fun hc => ?_) <;> (try first | (with_reducible replace hc := of_decide_eq_true hc) | (with_reducible replace hc := of_decide_eq_false hc) | (with_reducible replace hc := eqT hc) | (with_reducible replace hc := eqF hc) | (with_reducible replace hc := neT hc) | (with_reducible replace hc := neF hc) | (with_reducible replace hc := noT hc) | (with_reducible replace hc := noF hc)) <;> (try (exfalso; omega))))
  exact WQ.bodyN (Reads.none rfl) fun w' hw' => ⟨⟨_, rfl⟩, .inl ⟨_, rfl, J_below hJ hJi hw'.ext⟩⟩
/-- func padded(key string) iter.Seq2[int, byte] -/
theorem padded_w (k : List UInt8) (w : World) {V : Nat → Prop} : Calls Try.prog 38 #[.string (bs k)] w
    fun e w' => ∃ v N, e = .returned v ∧ (∃ B, v = .func (.func 45) #[] #[.pointer (some ⟨B, 0, none⟩)] ∧ N = [.box B 9 [.string (bs k)]]) ∧ New V N w w' := by
  refine enterW (fun _ => False) _ Try.func38 rfl (by simp only [Try.ntmps38, List.length_cons, List.length_nil, Nat.reduceAdd, Nat.reduceSub]; rfl) ?_
  repeat' (first
    | refine goS ?_
    | ((with_reducible refine WL.isN_box ?_); first | refine WL.step rfl (StepTo.boxA rfl rfl rfl rfl (fun _ => ?_)) | refine WL.step rfl (StepTo.box1 rfl rfl rfl rfl rfl (fun _ => ?_)))
    | with_reducible refine WC.block ?_
    | (refine WC.cond rfl (fun hc => ?_) (fun hc => ?_) <;> (try first | (with_reducible replace hc := of_decide_eq_true hc) | (with_reducible replace hc := of_decide_eq_false hc) | (with_reducible replace hc := eqT hc) | (with_reducible replace hc := eqF hc) | (with_reducible replace hc := neT hc) | (with_reducible replace hc := neF hc) | (with_reducible replace hc := noT hc) | (with_reducible replace hc := noF hc)) <;> (try (exfalso; omega))))
  exact WQ.body (Reads.tmp rfl rfl) fun w' hw' => ⟨_, _, rfl, ⟨_, rfl, rfl⟩, (hw'.pick (idx := [0]) ⟨by decide, rfl⟩).toNew (by simp [Item.mine])⟩
end Go.Proofs.Ytheilikelcgdmaa
