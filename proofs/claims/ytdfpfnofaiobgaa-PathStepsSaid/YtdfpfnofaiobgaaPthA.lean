/- Small facts of paths; what is said at the head of all the laws of path holds. -/
import Derived.Test.YtdfpfnofaiobgaaPthM
namespace Go.Proofs.Ytdfpfnofaiobgaa
open Go.RowKit
open Go.Proofs.Ytdfpfnofaiobgaa.Rto Go.Proofs.Ytdfpfnofaiobgaa.Win Go.Proofs.Ytdfpfnofaiobgaa.Pth
set_option linter.unusedVariables false
set_option linter.unusedSimpArgs false
set_option linter.unusedSectionVars false
set_option maxRecDepth 100000

theorem chg_at {l : List Pth} {k : Nat} {p : Pth} (f : Pth → Pth) (hp : l[k]? = some p) : chg (k : Int) f l = l.set k (f p) := by
  unfold chg
  rw [if_pos (by omega), Int.toNat_natCast, hp]
theorem chg_out {l : List Pth} {i : Int} (f : Pth → Pth) (h : isIn i l.length = false) : chg i f l = l := by
  unfold chg
  split
  · have : ¬ (i < l.length) := fun h' => by rw [isIn_iff.2 ⟨by assumption, h'⟩] at h; cases h
    rw [List.getElem?_eq_none (by omega)]
  · rfl
theorem pick_q (c n : Int) (w : World) (h0 : -9223372036854775808 ≤ c) (h1 : c ≤ 9223372036854775807) (hn : 1 ≤ n) (hn' : n ≤ 1000) :
    Calls Try.prog 17 #[.int .i64 c, .int .i64 n] w fun e w' => e = .returned (.int .i64 ((if c < 0 then -(c + 1) else c) % n)) ∧ Below w.heap.size w w' := by
  refine enterW (fun _ => False) _ Try.func17 rfl (by simp only [Try.ntmps17, List.length_cons, List.length_nil, Nat.reduceAdd, Nat.reduceSub]; rfl) ?_
  by_cases h : c < 0
  · rw [if_pos h]
    repeat' (first
    | with_reducible refine WL.nil ?_
    | with_reducible refine WQ.thenN ?_
    | with_reducible refine WQ.code ?_
    | with_reducible refine WC.seq ?_
    | with_reducible refine WC.region ?_
    | ((with_reducible refine WL.isN_move ?_); first | refine WL.yld rfl (Yld.pure rfl nrmQ) ?_)
    | ((with_reducible refine WL.isN_assign ?_); first | refine WL.yld rfl (Yld.pure rfl nrmQ) ?_)
    | ((with_reducible refine WL.isN_bin ?_); first | refine WL.yld rfl (Yld.pure rfl nrmQ) ?_ | refine WL.yld rfl (Yld.rem rfl rfl rfl rfl (by omega) (by omega)) ?_ | refine WL.yld rfl (Yld.quo rfl rfl rfl rfl (by omega) (by omega) nrmQ) ?_ | refine WL.yld rfl (Yld.eqlB rfl rfl rfl rfl) ?_ | refine WL.yld rfl (Yld.neqB rfl rfl rfl rfl) ?_ | refine WL.yld rfl (Yld.eqlA 4 rfl rfl rfl (by kernel_rfl) (by kernel_rfl) rfl rfl) ?_ | refine WL.yld rfl (Yld.neqA 4 rfl rfl rfl (by kernel_rfl) (by kernel_rfl) rfl rfl) ?_ | refine WL.yld rfl (Yld.quoT rfl rfl rfl rfl (by omega) nrmQ) ?_)
    | ((with_reducible refine WL.isN_un ?_); first | refine WL.yld rfl (Yld.pure rfl nrmQ) ?_)
    | with_reducible refine WC.block ?_
    | with_reducible refine WC.scope ?_
    | with_reducible refine WC.label ?_
    | with_reducible refine WQ.ngN ?_
    | with_reducible refine WQ.ngR ?_
    | with_reducible refine WQ.ngX ?_
    | with_reducible refine WC.skip ?_
    | with_reducible refine WC.ret ?_
    | with_reducible refine WC.exit ?_
    | with_reducible refine WQ.thenR ?_
    | with_reducible refine WQ.thenX ?_
    | with_reducible refine WQ.blkN ?_
    | with_reducible refine WQ.blkR ?_
    | ((with_reducible refine WQ.blkX ?_ ?_); focus rfl)
    | ((with_reducible refine WQ.blkY ?_ ?_); focus rfl)
    | refine WC.condT rfl ?_
    | refine WC.condF rfl ?_
    | refine WC.condTh rfl gdQ ?_
    | refine WC.condFh rfl gdQ ?_
    | (refine WC.cond rfl (fun hc => ?_) (fun hc => ?_) <;> (try first | (with_reducible replace hc := of_decide_eq_true hc) | (with_reducible replace hc := of_decide_eq_false hc) | (with_reducible replace hc := eqT hc) | (with_reducible replace hc := eqF hc) | (with_reducible replace hc := neT hc) | (with_reducible replace hc := neF hc) | (with_reducible replace hc := noT hc) | (with_reducible replace hc := noF hc)) <;> (try (exfalso; omega))))
    exact WQ.body (Reads.tmp rfl rfl) fun w' hw' => ⟨by rw [show (0 - (c + 1)) = -(c + 1) from by omega], hw'.ext.below⟩
  · rw [if_neg h]
    repeat' (first
    | with_reducible refine WL.nil ?_
    | with_reducible refine WQ.thenN ?_
    | with_reducible refine WQ.code ?_
    | with_reducible refine WC.seq ?_
    | with_reducible refine WC.region ?_
    | ((with_reducible refine WL.isN_move ?_); first | refine WL.yld rfl (Yld.pure rfl nrmQ) ?_)
    | ((with_reducible refine WL.isN_assign ?_); first | refine WL.yld rfl (Yld.pure rfl nrmQ) ?_)
    | ((with_reducible refine WL.isN_bin ?_); first | refine WL.yld rfl (Yld.pure rfl nrmQ) ?_ | refine WL.yld rfl (Yld.rem rfl rfl rfl rfl (by omega) (by omega)) ?_ | refine WL.yld rfl (Yld.quo rfl rfl rfl rfl (by omega) (by omega) nrmQ) ?_ | refine WL.yld rfl (Yld.eqlB rfl rfl rfl rfl) ?_ | refine WL.yld rfl (Yld.neqB rfl rfl rfl rfl) ?_ | refine WL.yld rfl (Yld.eqlA 4 rfl rfl rfl (by kernel_rfl) (by kernel_rfl) rfl rfl) ?_ | refine WL.yld rfl (Yld.neqA 4 rfl rfl rfl (by kernel_rfl) (by kernel_rfl) rfl rfl) ?_ | refine WL.yld rfl (Yld.quoT rfl rfl rfl rfl (by omega) nrmQ) ?_)
    | ((with_reducible refine WL.isN_un ?_); first | refine WL.yld rfl (Yld.pure rfl nrmQ) ?_)
    | with_reducible refine WC.block ?_
    | with_reducible refine WC.scope ?_
    | with_reducible refine WC.label ?_
    | with_reducible refine WQ.ngN ?_
    | with_reducible refine WQ.ngR ?_
    | with_reducible refine WQ.ngX ?_
    | with_reducible refine WC.skip ?_
    | with_reducible refine WC.ret ?_
    | with_reducible refine WC.exit ?_
    | with_reducible refine WQ.thenR ?_
    | with_reducible refine WQ.thenX ?_
    | with_reducible refine WQ.blkN ?_
    | with_reducible refine WQ.blkR ?_
    | ((with_reducible refine WQ.blkX ?_ ?_); focus rfl)
    | ((with_reducible refine WQ.blkY ?_ ?_); focus rfl)
    | refine WC.condT rfl ?_
    | refine WC.condF rfl ?_
    | refine WC.condTh rfl gdQ ?_
    | refine WC.condFh rfl gdQ ?_
    | (refine WC.cond rfl (fun hc => ?_) (fun hc => ?_) <;> (try first | (with_reducible replace hc := of_decide_eq_true hc) | (with_reducible replace hc := of_decide_eq_false hc) | (with_reducible replace hc := eqT hc) | (with_reducible replace hc := eqF hc) | (with_reducible replace hc := neT hc) | (with_reducible replace hc := neF hc) | (with_reducible replace hc := noT hc) | (with_reducible replace hc := noF hc)) <;> (try (exfalso; omega))))
    exact WQ.body (Reads.tmp rfl rfl) fun w' hw' => ⟨rfl, hw'.ext.below⟩
abbrev sa : ByteArray := { data := #[97, 97, 97, 97] }
abbrev sb : ByteArray := { data := #[98, 98, 98, 98] }
abbrev scc : ByteArray := { data := #[99, 99, 99, 99] }
def l3 : List Pth := [fresh sa 60000 2, fresh sb 60000 1, fresh scc 60000 1]
def l3q : List Pth := chg 1 heard (chg 1 (answered 300) (chg 1 (beat 7 100) l3))
theorem new3 : newF [sa, sb, scc] 60000 = (0, l3, 0, 0) := by kernel_rfl
theorem cho3a : chooseF l3 0 (-1) = 0 := by kernel_rfl
theorem cho3b : chooseF l3 0 0 = 0 := by kernel_rfl
theorem ack3 : ackB 1 7 300 (chg 1 (beat 7 100) l3) = true := by kernel_rfl
theorem cho3c : chooseF l3q 0 0 = 1 := by kernel_rfl
theorem q31 : ∃ p, l3q[1]? = some p ∧ p.state = 2 := ⟨heard (answered 300 (beat 7 100 (fresh sb 60000 1))), by kernel_rfl, by kernel_rfl⟩
theorem ok3 : ∀ p ∈ l3, POk p := by
  intro p hp
  simp only [l3, List.mem_cons, List.not_mem_nil, or_false] at hp
  rcases hp with rfl | rfl | rfl <;> exact ⟨by decide +kernel, by decide +kernel, by decide +kernel⟩
theorem beat_ok (nonce now : Int) (p : Pth) (h : POk p) : POk (beat nonce now p) := ⟨h.1, h.2, h.3⟩
theorem pathsE_is {r : Int × List Pth × Int × Int} {v : Value} {N : List Item} {e pr al : Int} {l : List Pth} {n : Nat} (h : PathsE r v N) (hr : r = (e, l, pr, al)) (hn : l.length = n) : ∃ A c, v = .tuple #[.agg #[.slice A n c, .int .i64 pr, .int .i64 al], .int .i64 e] ∧ N = [.vw A n 14 (flat Pth.cs l)] ∧ okA A n := by
  subst hr
  obtain ⟨A, m, c, rfl, rfl, ok, hl⟩ := h
  dsimp only at hl
  rw [hn] at hl
  subst hl
  exact ⟨A, c, rfl, rfl, ok⟩
theorem pathsR_is {pr al : Int} {l : List Pth} {v : Value} {N : List Item} {n : Nat} (h : PathsR pr al l v N) (hn : l.length = n) : ∃ A c, v = .agg #[.slice A n c, .int .i64 pr, .int .i64 al] ∧ N = [.vw A n 14 (flat Pth.cs l)] ∧ okA A n := by
  obtain ⟨A, m, c, rfl, rfl, ok, hl⟩ := h
  rw [hn] at hl
  subst hl
  exact ⟨A, c, rfl, rfl, ok⟩
theorem pathsB_is {pr al pr' al' : Int} {l l' : List Pth} {b b' : Bool} {v : Value} {N : List Item} {n : Nat} (h : PathsB pr al l b v N) (h1 : pr = pr') (h2 : al = al') (h3 : l = l') (h4 : b = b') (hn : l'.length = n) : ∃ A c, v = .tuple #[.agg #[.slice A n c, .int .i64 pr', .int .i64 al'], .bool b'] ∧ N = [.vw A n 14 (flat Pth.cs l')] ∧ okA A n := by
  subst h1 h2 h3 h4
  obtain ⟨A, m, c, rfl, rfl, ok, hl⟩ := h
  rw [hn] at hl
  subst hl
  exact ⟨A, c, rfl, rfl, ok⟩
set_option maxHeartbeats 2000000 in
theorem shown_q (w : World) : Calls Try.prog 8 #[] w fun e w' => e = .returned (.bool true) ∧ Below w.heap.size w w' := by
  refine enterW (fun _ => False) _ Try.func8 rfl (by simp only [Try.ntmps8, List.length_cons, List.length_nil, Nat.reduceAdd, Nat.reduceSub]; rfl) ?_
  repeat' (first
    | with_reducible refine WL.nil ?_
    | with_reducible refine WQ.thenN ?_
    | with_reducible refine WQ.code ?_
    | with_reducible refine WC.seq ?_
    | with_reducible refine WC.region ?_
    | ((with_reducible refine WL.isN_move ?_); first | refine WL.yld rfl (Yld.pure rfl nrmQ) ?_)
    | ((with_reducible refine WL.isN_assign ?_); first | refine WL.yld rfl (Yld.pure rfl nrmQ) ?_)
    | ((with_reducible refine WL.isN_bin ?_); first | refine WL.yld rfl (Yld.pure rfl nrmQ) ?_ | refine WL.yld rfl (Yld.rem rfl rfl rfl rfl (by omega) (by omega)) ?_ | refine WL.yld rfl (Yld.quo rfl rfl rfl rfl (by omega) (by omega) nrmQ) ?_ | refine WL.yld rfl (Yld.eqlB rfl rfl rfl rfl) ?_ | refine WL.yld rfl (Yld.neqB rfl rfl rfl rfl) ?_ | refine WL.yld rfl (Yld.eqlA 4 rfl rfl rfl (by kernel_rfl) (by kernel_rfl) rfl rfl) ?_ | refine WL.yld rfl (Yld.neqA 4 rfl rfl rfl (by kernel_rfl) (by kernel_rfl) rfl rfl) ?_ | refine WL.yld rfl (Yld.quoT rfl rfl rfl rfl (by omega) nrmQ) ?_)
    | ((with_reducible refine WL.isN_extract ?_); first | refine WL.yld rfl (Yld.pure rfl nrmQ) ?_)
    | ((with_reducible refine WL.isN_load ?_); first | refine WL.yld rfl (Yld.load rfl rfl rfl rfl cellQ) ?_ | refine WL.yld rfl (Yld.loadAgg rfl rfl rfl rfl rfl aggQ) ?_)
    | ((with_reducible refine WL.isN_faddr ?_); first | refine WL.yld rfl (Yld.fieldAddr rfl rfl rfl rfl rfl rfl rfl) ?_)
    | ((with_reducible refine WL.isN_iaddr ?_); first | refine WL.yld rfl (Yld.indexS 0 rfl rfl rfl rfl rfl rfl (by omega)) ?_ | refine WL.yld rfl (Yld.indexS 1 rfl rfl rfl rfl rfl rfl (by omega)) ?_ | refine WL.yld rfl (Yld.indexS 2 rfl rfl rfl rfl rfl rfl (by omega)) ?_ | refine WL.yld rfl (Yld.indexS _ rfl rfl rfl rfl rfl rfl (by omega)) ?_ | refine WL.yld rfl (Yld.indexA 0 rfl rfl rfl rfl rfl rfl (by omega)) ?_ | refine WL.yld rfl (Yld.indexA 1 rfl rfl rfl rfl rfl rfl (by omega)) ?_ | refine WL.yld rfl (Yld.indexA _ rfl rfl rfl rfl rfl rfl (by omega)) ?_)
    | ((with_reducible refine WL.isN_pick ?_); first | refine WL.yld rfl (Yld.pickT rfl rfl rfl) ?_ | refine WL.yld rfl (Yld.pickF rfl rfl rfl) ?_ | refine WL.yld rfl (Yld.pickTh rfl rfl gdQ rfl) ?_ | refine WL.yld rfl (Yld.pickFh rfl rfl gdQ rfl) ?_ | refine WL.yld rfl (Yld.pickB rfl rfl rfl rfl) ?_)
    | ((with_reducible refine WL.isN_call ?_); first | refine WL.yld rfl (Yld.lenSlice rfl rfl rfl) ?_ | refine WL.yld rfl (Yld.lenStr rfl rfl rfl) ?_)
    | ((with_reducible refine WL.isT ?_); first | refine WL.skipT rfl rfl rfl rfl gdQ ?_ | refine WL.skipU rfl rfl rfl rfl ?_ | refine WL.runT rfl rfl rfl gdQ ?_)
    | ((with_reducible refine WL.isF ?_); first | refine WL.skipF rfl rfl rfl rfl gdQ ?_ | refine WL.skipU rfl rfl rfl rfl ?_ | refine WL.runF rfl rfl rfl gdQ ?_)
    | ((with_reducible refine WL.isN_alloc ?_); first | refine WL.step rfl (StepTo.allocA rfl rfl rfl rfl (fun _ => ?_)) | refine WL.step rfl (StepTo.alloc1 rfl rfl rfl rfl rfl (fun _ => ?_)))
    | ((with_reducible refine WL.isN_store ?_); first | refine WL.step rfl (StepTo.st1 rfl rfl rfl rfl rfl rfl ?_) | refine WL.step rfl (StepTo.stA rfl rfl rfl rfl rfl rfl rfl ?_) | refine WL.step rfl (StepTo.stR rfl rfl rfl rfl rfl rfl rfl ?_))
    | ((with_reducible refine WL.isN_bslice ?_); first | refine WL.step rfl (StepTo.buildSlice rfl rfl rfl rfl rfl rfl rfl rfl rfl rfl cellsOfQ (fun _ => ?_)))
    | with_reducible refine WC.block ?_
    | with_reducible refine WC.scope ?_
    | with_reducible refine WC.label ?_
    | with_reducible refine WQ.ngN ?_
    | with_reducible refine WQ.ngR ?_
    | with_reducible refine WQ.ngX ?_
    | with_reducible refine WC.skip ?_
    | with_reducible refine WC.ret ?_
    | with_reducible refine WC.exit ?_
    | with_reducible refine WQ.thenR ?_
    | with_reducible refine WQ.thenX ?_
    | with_reducible refine WQ.blkN ?_
    | with_reducible refine WQ.blkR ?_
    | ((with_reducible refine WQ.blkX ?_ ?_); focus rfl)
    | ((with_reducible refine WQ.blkY ?_ ?_); focus rfl)
    | refine WC.condT rfl ?_
    | refine WC.condF rfl ?_
    | refine WC.condTh rfl gdQ ?_
    | refine WC.condFh rfl gdQ ?_
    | (refine WC.cond rfl (fun hc => ?_) (fun hc => ?_) <;> (try first | (with_reducible replace hc := of_decide_eq_true hc) | (with_reducible replace hc := of_decide_eq_false hc) | (with_reducible replace hc := eqT hc) | (with_reducible replace hc := eqF hc) | (with_reducible replace hc := neT hc) | (with_reducible replace hc := neF hc) | (with_reducible replace hc := noT hc) | (with_reducible replace hc := noF hc)) <;> (try (exfalso; omega))))
  rename_i bs
  refine WL.boxVw 0 3 1 rfl rfl (by omega) ?_
  refine WL.step rfl (StepTo.callF [0] (us := [.slice (some ⟨bs, 0, none⟩) 3 3, .int .i64 60000]) rfl rfl rfl rfl rfl (by kernel_rfl) (fun w hw => new_w _ 3 3 [sa, sb, scc] 60000 w (hw.lst 0 sc_len (by omega) rfl) (by omega)) ?_)
  intro v N hE hbl
  obtain ⟨A, c, rfl, rfl, okA⟩ := pathsE_is hE new3 (n := 3) rfl
  repeat' (first
    | with_reducible refine WL.nil ?_
    | with_reducible refine WQ.thenN ?_
    | with_reducible refine WQ.code ?_
    | with_reducible refine WC.seq ?_
    | with_reducible refine WC.region ?_
    | ((with_reducible refine WL.isN_move ?_); first | refine WL.yld rfl (Yld.pure rfl nrmQ) ?_)
    | ((with_reducible refine WL.isN_assign ?_); first | refine WL.yld rfl (Yld.pure rfl nrmQ) ?_)
    | ((with_reducible refine WL.isN_bin ?_); first | refine WL.yld rfl (Yld.pure rfl nrmQ) ?_ | refine WL.yld rfl (Yld.rem rfl rfl rfl rfl (by omega) (by omega)) ?_ | refine WL.yld rfl (Yld.quo rfl rfl rfl rfl (by omega) (by omega) nrmQ) ?_ | refine WL.yld rfl (Yld.eqlB rfl rfl rfl rfl) ?_ | refine WL.yld rfl (Yld.neqB rfl rfl rfl rfl) ?_ | refine WL.yld rfl (Yld.eqlA 4 rfl rfl rfl (by kernel_rfl) (by kernel_rfl) rfl rfl) ?_ | refine WL.yld rfl (Yld.neqA 4 rfl rfl rfl (by kernel_rfl) (by kernel_rfl) rfl rfl) ?_ | refine WL.yld rfl (Yld.quoT rfl rfl rfl rfl (by omega) nrmQ) ?_)
    | ((with_reducible refine WL.isN_extract ?_); first | refine WL.yld rfl (Yld.pure rfl nrmQ) ?_)
    | ((with_reducible refine WL.isN_load ?_); first | refine WL.yld rfl (Yld.load rfl rfl rfl rfl cellQ) ?_ | refine WL.yld rfl (Yld.loadAgg rfl rfl rfl rfl rfl aggQ) ?_)
    | ((with_reducible refine WL.isN_faddr ?_); first | refine WL.yld rfl (Yld.fieldAddr rfl rfl rfl rfl rfl rfl rfl) ?_)
    | ((with_reducible refine WL.isN_iaddr ?_); first | refine WL.yld rfl (Yld.indexS 0 rfl rfl rfl rfl rfl rfl (by omega)) ?_ | refine WL.yld rfl (Yld.indexS 1 rfl rfl rfl rfl rfl rfl (by omega)) ?_ | refine WL.yld rfl (Yld.indexS 2 rfl rfl rfl rfl rfl rfl (by omega)) ?_ | refine WL.yld rfl (Yld.indexS _ rfl rfl rfl rfl rfl rfl (by omega)) ?_ | refine WL.yld rfl (Yld.indexA 0 rfl rfl rfl rfl rfl rfl (by omega)) ?_ | refine WL.yld rfl (Yld.indexA 1 rfl rfl rfl rfl rfl rfl (by omega)) ?_ | refine WL.yld rfl (Yld.indexA _ rfl rfl rfl rfl rfl rfl (by omega)) ?_)
    | ((with_reducible refine WL.isN_pick ?_); first | refine WL.yld rfl (Yld.pickT rfl rfl rfl) ?_ | refine WL.yld rfl (Yld.pickF rfl rfl rfl) ?_ | refine WL.yld rfl (Yld.pickTh rfl rfl gdQ rfl) ?_ | refine WL.yld rfl (Yld.pickFh rfl rfl gdQ rfl) ?_ | refine WL.yld rfl (Yld.pickB rfl rfl rfl rfl) ?_)
    | ((with_reducible refine WL.isN_call ?_); first | refine WL.step rfl (StepTo.callV (v := .int .i64 0) (us := [.agg #[.slice A 3 c, .int .i64 0, .int .i64 0], .int .i64 (-1)]) rfl rfl rfl rfl rfl (by kernel_rfl) (fun w hw => cho3a ▸ choose_q A 3 c 0 0 (-1) l3 w (hw.lst 1 cs_len (by omega) rfl) (by omega)) ?_) | refine WL.step rfl (StepTo.callV (v := .int .i64 0) (us := [.agg #[.slice A 3 c, .int .i64 0, .int .i64 0], .int .i64 0]) rfl rfl rfl rfl rfl (by kernel_rfl) (fun w hw => cho3b ▸ choose_q A 3 c 0 0 0 l3 w (hw.lst 1 cs_len (by omega) rfl) (by omega)) ?_) | refine WL.yld rfl (Yld.lenSlice rfl rfl rfl) ?_ | refine WL.yld rfl (Yld.lenStr rfl rfl rfl) ?_)
    | ((with_reducible refine WL.isT ?_); first | refine WL.skipT rfl rfl rfl rfl gdQ ?_ | refine WL.skipU rfl rfl rfl rfl ?_ | refine WL.runT rfl rfl rfl gdQ ?_)
    | ((with_reducible refine WL.isF ?_); first | refine WL.skipF rfl rfl rfl rfl gdQ ?_ | refine WL.skipU rfl rfl rfl rfl ?_ | refine WL.runF rfl rfl rfl gdQ ?_)
    | ((with_reducible refine WL.isN_alloc ?_); first | refine WL.step rfl (StepTo.allocA rfl rfl rfl rfl (fun _ => ?_)) | refine WL.step rfl (StepTo.alloc1 rfl rfl rfl rfl rfl (fun _ => ?_)))
    | ((with_reducible refine WL.isN_store ?_); first | refine WL.step rfl (StepTo.st1 rfl rfl rfl rfl rfl rfl ?_) | refine WL.step rfl (StepTo.stA rfl rfl rfl rfl rfl rfl rfl ?_) | refine WL.step rfl (StepTo.stR rfl rfl rfl rfl rfl rfl rfl ?_))
    | ((with_reducible refine WL.isN_bslice ?_); first | refine WL.step rfl (StepTo.buildSlice rfl rfl rfl rfl rfl rfl rfl rfl rfl rfl cellsOfQ (fun _ => ?_)))
    | with_reducible refine WC.block ?_
    | with_reducible refine WC.scope ?_
    | with_reducible refine WC.label ?_
    | with_reducible refine WQ.ngN ?_
    | with_reducible refine WQ.ngR ?_
    | with_reducible refine WQ.ngX ?_
    | with_reducible refine WC.skip ?_
    | with_reducible refine WC.ret ?_
    | with_reducible refine WC.exit ?_
    | with_reducible refine WQ.thenR ?_
    | with_reducible refine WQ.thenX ?_
    | with_reducible refine WQ.blkN ?_
    | with_reducible refine WQ.blkR ?_
    | ((with_reducible refine WQ.blkX ?_ ?_); focus rfl)
    | ((with_reducible refine WQ.blkY ?_ ?_); focus rfl)
    | refine WC.condT rfl ?_
    | refine WC.condF rfl ?_
    | refine WC.condTh rfl gdQ ?_
    | refine WC.condFh rfl gdQ ?_
    | (refine WC.cond rfl (fun hc => ?_) (fun hc => ?_) <;> (try first | (with_reducible replace hc := of_decide_eq_true hc) | (with_reducible replace hc := of_decide_eq_false hc) | (with_reducible replace hc := eqT hc) | (with_reducible replace hc := eqF hc) | (with_reducible replace hc := neT hc) | (with_reducible replace hc := neF hc) | (with_reducible replace hc := noT hc) | (with_reducible replace hc := noF hc)) <;> (try (exfalso; omega))))
  refine WL.step rfl (StepTo.callF [1] (us := [.agg #[.slice A 3 c, .int .i64 0, .int .i64 0], .int .i64 1, .int .u32 7, .int .i64 100]) rfl rfl rfl rfl rfl (by kernel_rfl) (fun w hw => beat_w A 3 c 0 0 1 7 100 l3 w (hw.lst 1 cs_len (by omega) rfl) okA (by omega) ok3 (nearV.vs 1 rfl (by simp))) ?_)
  intro v N hE hbl
  obtain ⟨A2, c2, rfl, rfl, ok2⟩ := pathsR_is hE (n := 3) (by rw [chg_len]; rfl)
  refine WL.step rfl (StepTo.callF [0] (us := [.agg #[.slice A2 3 c2, .int .i64 0, .int .i64 0], .int .i64 1, .int .u32 7, .int .i64 300]) rfl rfl rfl rfl rfl (by kernel_rfl) (fun w hw => ack_w A2 3 c2 0 0 1 7 300 _ w (hw.lst 0 cs_len (by omega) rfl) ok2 (by omega) (upd_ok (beat_ok 7 100) ok3) (nearV.vs 0 rfl (by simp))) ?_)
  intro v N hE hbl
  obtain ⟨A3, c3, rfl, rfl, ok4⟩ := pathsB_is hE rfl (if_pos ack3) (if_pos ack3) ack3 (n := 3) (l' := l3q) (by kernel_rfl)
  obtain ⟨p, hp, hs⟩ := q31
  have hpp : PartAt (flat Pth.cs l3q) (1 * 14) p.cs := PartAt.flat cs_len hp
  refine WL.vwAt 0 rfl (by omega) fun b3 off3 hA => ?_
  subst hA
  repeat' (first
    | with_reducible refine WL.nil ?_
    | with_reducible refine WQ.thenN ?_
    | with_reducible refine WQ.code ?_
    | with_reducible refine WC.seq ?_
    | with_reducible refine WC.region ?_
    | ((with_reducible refine WL.isN_move ?_); first | refine WL.yld rfl (Yld.pure rfl nrmQ) ?_)
    | ((with_reducible refine WL.isN_assign ?_); first | refine WL.yld rfl (Yld.pure rfl nrmQ) ?_)
    | ((with_reducible refine WL.isN_bin ?_); first | refine WL.yld rfl (Yld.pure rfl nrmQ) ?_ | refine WL.yld rfl (Yld.rem rfl rfl rfl rfl (by omega) (by omega)) ?_ | refine WL.yld rfl (Yld.quo rfl rfl rfl rfl (by omega) (by omega) nrmQ) ?_ | refine WL.yld rfl (Yld.eqlB rfl rfl rfl rfl) ?_ | refine WL.yld rfl (Yld.neqB rfl rfl rfl rfl) ?_ | refine WL.yld rfl (Yld.eqlA 4 rfl rfl rfl (by kernel_rfl) (by kernel_rfl) rfl rfl) ?_ | refine WL.yld rfl (Yld.neqA 4 rfl rfl rfl (by kernel_rfl) (by kernel_rfl) rfl rfl) ?_ | refine WL.yld rfl (Yld.quoT rfl rfl rfl rfl (by omega) nrmQ) ?_)
    | ((with_reducible refine WL.isN_extract ?_); first | refine WL.yld rfl (Yld.pure rfl nrmQ) ?_)
    | ((with_reducible refine WL.isN_load ?_); first | refine WL.yld rfl (Yld.load rfl rfl rfl rfl cellQ) ?_ | refine WL.yld rfl (Yld.loadAgg rfl rfl rfl rfl rfl aggQ) ?_)
    | ((with_reducible refine WL.isN_faddr ?_); first | refine WL.yld rfl (Yld.fieldAddr rfl rfl rfl rfl rfl rfl rfl) ?_)
    | ((with_reducible refine WL.isN_iaddr ?_); first | refine WL.yld rfl (Yld.indexS 0 rfl rfl rfl rfl rfl rfl (by omega)) ?_ | refine WL.yld rfl (Yld.indexS 1 rfl rfl rfl rfl rfl rfl (by omega)) ?_ | refine WL.yld rfl (Yld.indexS 2 rfl rfl rfl rfl rfl rfl (by omega)) ?_ | refine WL.yld rfl (Yld.indexS _ rfl rfl rfl rfl rfl rfl (by omega)) ?_ | refine WL.yld rfl (Yld.indexA 0 rfl rfl rfl rfl rfl rfl (by omega)) ?_ | refine WL.yld rfl (Yld.indexA 1 rfl rfl rfl rfl rfl rfl (by omega)) ?_ | refine WL.yld rfl (Yld.indexA _ rfl rfl rfl rfl rfl rfl (by omega)) ?_)
    | ((with_reducible refine WL.isN_pick ?_); first | refine WL.yld rfl (Yld.pickT rfl rfl rfl) ?_ | refine WL.yld rfl (Yld.pickF rfl rfl rfl) ?_ | refine WL.yld rfl (Yld.pickTh rfl rfl gdQ rfl) ?_ | refine WL.yld rfl (Yld.pickFh rfl rfl gdQ rfl) ?_ | refine WL.yld rfl (Yld.pickB rfl rfl rfl rfl) ?_)
    | ((with_reducible refine WL.isN_call ?_); first | refine WL.step rfl (StepTo.callV (v := .int .i64 1) (us := [.agg #[.slice (some ⟨b3, off3, none⟩) 3 c3, .int .i64 0, .int .i64 0], .int .i64 0]) rfl rfl rfl rfl rfl (by kernel_rfl) (fun w hw => cho3c ▸ choose_q _ 3 c3 0 0 0 l3q w (hw.lst 1 cs_len (by omega) rfl) (by omega)) ?_) | refine WL.yld rfl (Yld.lenSlice rfl rfl rfl) ?_ | refine WL.yld rfl (Yld.lenStr rfl rfl rfl) ?_)
    | ((with_reducible refine WL.isT ?_); first | refine WL.skipT rfl rfl rfl rfl gdQ ?_ | refine WL.skipU rfl rfl rfl rfl ?_ | refine WL.runT rfl rfl rfl gdQ ?_)
    | ((with_reducible refine WL.isF ?_); first | refine WL.skipF rfl rfl rfl rfl gdQ ?_ | refine WL.skipU rfl rfl rfl rfl ?_ | refine WL.runF rfl rfl rfl gdQ ?_)
    | ((with_reducible refine WL.isN_alloc ?_); first | refine WL.step rfl (StepTo.allocA rfl rfl rfl rfl (fun _ => ?_)) | refine WL.step rfl (StepTo.alloc1 rfl rfl rfl rfl rfl (fun _ => ?_)))
    | ((with_reducible refine WL.isN_store ?_); first | refine WL.step rfl (StepTo.st1 rfl rfl rfl rfl rfl rfl ?_) | refine WL.step rfl (StepTo.stA rfl rfl rfl rfl rfl rfl rfl ?_) | refine WL.step rfl (StepTo.stR rfl rfl rfl rfl rfl rfl rfl ?_))
    | ((with_reducible refine WL.isN_bslice ?_); first | refine WL.step rfl (StepTo.buildSlice rfl rfl rfl rfl rfl rfl rfl rfl rfl rfl cellsOfQ (fun _ => ?_)))
    | with_reducible refine WC.block ?_
    | with_reducible refine WC.scope ?_
    | with_reducible refine WC.label ?_
    | with_reducible refine WQ.ngN ?_
    | with_reducible refine WQ.ngR ?_
    | with_reducible refine WQ.ngX ?_
    | with_reducible refine WC.skip ?_
    | with_reducible refine WC.ret ?_
    | with_reducible refine WC.exit ?_
    | with_reducible refine WQ.thenR ?_
    | with_reducible refine WQ.thenX ?_
    | with_reducible refine WQ.blkN ?_
    | with_reducible refine WQ.blkR ?_
    | ((with_reducible refine WQ.blkX ?_ ?_); focus rfl)
    | ((with_reducible refine WQ.blkY ?_ ?_); focus rfl)
    | refine WC.condT rfl ?_
    | refine WC.condF rfl ?_
    | refine WC.condTh rfl gdQ ?_
    | refine WC.condFh rfl gdQ ?_
    | (refine WC.cond rfl (fun hc => ?_) (fun hc => ?_) <;> (try first | (with_reducible replace hc := of_decide_eq_true hc) | (with_reducible replace hc := of_decide_eq_false hc) | (with_reducible replace hc := eqT hc) | (with_reducible replace hc := eqF hc) | (with_reducible replace hc := neT hc) | (with_reducible replace hc := neF hc) | (with_reducible replace hc := noT hc) | (with_reducible replace hc := noF hc)) <;> (try (exfalso; omega))))
  exact WQ.body (Reads.tmp rfl rfl) fun w' hw' => ⟨rfl, hw'.ext.below⟩
theorem three_at : ∀ k, k < 3 → ∃ p, l3[k]? = some p ∧ p.errors = 0 ∧ p.known = false ∧ POk p ∧ (p.state = 1 ∨ p.state = 2)
  | 0, _ => ⟨fresh sa 60000 2, rfl, rfl, rfl, ok3 _ (by simp [l3]), .inr rfl⟩
  | 1, _ => ⟨fresh sb 60000 1, rfl, rfl, rfl, ok3 _ (by simp [l3]), .inl rfl⟩
  | 2, _ => ⟨fresh scc 60000 1, rfl, rfl, rfl, ok3 _ (by simp [l3]), .inl rfl⟩
  | k + 3, h => absurd h (by omega)
theorem pick3 (i n : Int) (hn : 0 < n) : ∃ k : Nat, (if i < 0 then -(i + 1) else i) % n = k ∧ (k : Int) < n := by
  have h0 := Int.emod_nonneg (if i < 0 then -(i + 1) else i) (show n ≠ 0 by omega)
  have h1 := Int.emod_lt_of_pos (if i < 0 then -(i + 1) else i) hn
  obtain ⟨k, hk⟩ := Int.eq_ofNat_of_zero_le h0
  exact ⟨k, hk, by omega⟩
theorem pathsR_at {pr al al' : Int} {l l' : List Pth} {v : Value} {N : List Item} {n : Nat} (h : PathsR pr al l v N) (h1 : al = al') (h2 : l = l') (hn : l'.length = n) : ∃ A c, v = .agg #[.slice A n c, .int .i64 pr, .int .i64 al'] ∧ N = [.vw A n 14 (flat Pth.cs l')] ∧ okA A n := by
  subst h1 h2
  exact pathsR_is h hn
theorem set_it {α : Type} {l : List α} {k : Nat} {x : α} (h : l[k]? = some x) : l = l.set k x := by
  obtain ⟨h1, rfl⟩ := List.getElem?_eq_some_iff.1 h
  exact (List.set_getElem_self h1).symm
theorem w64_one (j : Nat) (hj : j ≤ 1000) : w64 ((j : Int) + 1) = j + 1 := by unfold w64; omega
theorem failed_errors (x : Pth) (j : Nat) (hj : j ≤ 1000) (h : x.errors = j) : w64 (x.errors + 1) = j + 1 := by rw [h]; exact w64_one j hj
def stt (s : Int) (j : Nat) : Int := if s = 2 ∧ 5 < j then 3 else s
theorem failed_state (x : Pth) : (failed x).state = if x.state = 2 ∧ 5 < w64 (x.errors + 1) then 3 else x.state := rfl
theorem next_state (s : Int) (j : Nat) : (if (if s = 2 ∧ 5 < j then 3 else s) = 2 ∧ 5 < (j : Int) + 1 then 3 else (if s = 2 ∧ 5 < j then 3 else s)) = if s = 2 ∧ 5 < j + 1 then 3 else s := by
  by_cases h2 : s = 2
  · by_cases h5 : 5 < j
    · have h6 : 5 < j + 1 := by omega
      simp [h2, h5, h6]
    · by_cases h6 : 5 < j + 1
      · have h7 : (5 : Int) < (j : Int) + 1 := by omega
        simp [h2, h5, h6, h7]
      · have h7 : ¬ (5 : Int) < (j : Int) + 1 := by omega
        simp [h2, h5, h6, h7]
  · simp [h2]
theorem chg_set {l : List Pth} {k : Nat} {x : Pth} (f : Pth → Pth) (h : k < l.length) : chg (k : Int) f (l.set k x) = l.set k (f x) := by
  rw [chg_at (p := x) f (by rw [List.getElem?_set_self h]), List.set_set]
theorem set_ok {l : List Pth} (h : ∀ p ∈ l, POk p) {k : Nat} {x : Pth} (hx : POk x) : ∀ p ∈ l.set k x, POk p := by
  intro p hp
  rcases List.mem_or_eq_of_mem_set hp with h1 | rfl
  · exact h p h1
  · exact hx
theorem act_is {l : List Pth} {x : Int} (h : act l x = true) : ∃ (k : Nat) (q : Pth), x = k ∧ l[k]? = some q ∧ q.state = 2 := by
  unfold act at h
  rw [Bool.and_eq_true] at h
  obtain ⟨h1, h2⟩ := h
  obtain ⟨h3, h4⟩ := isIn_iff.1 h1
  obtain ⟨k, rfl⟩ := Int.eq_ofNat_of_zero_le h3
  rw [Int.toNat_natCast] at h2
  cases hq : l[k]? with
  | none => rw [hq] at h2; cases h2
  | some q =>
    rw [hq] at h2
    exact ⟨k, q, rfl, hq, by simpa using h2⟩
theorem mem_ord {n : Nat} {pr : Int} {j : Nat} (h : j < n) : (j : Int) ∈ ordL n pr := by
  unfold ordL
  exact List.mem_cons_of_mem _ (List.mem_map.2 ⟨j, List.mem_range.2 h, rfl⟩)
/-- Another one that is active is chosen, if there is one. -/
theorem cho_oth {l : List Pth} {pr no : Int} {j : Nat} {p : Pth} (h : l[j]? = some p) (hs : p.state = 2) (hn : (j : Int) ≠ no) : ∃ (k : Nat) (q : Pth), chooseF l pr no = k ∧ (k : Int) ≠ no ∧ l[k]? = some q ∧ q.state = 2 := by
  have hj := (List.getElem?_eq_some_iff.1 h).1
  unfold chooseF
  cases hf : (ordL l.length pr).find? (cand l no) with
  | none =>
    have := List.find?_eq_none.1 hf _ (mem_ord hj)
    unfold cand at this
    rw [act_at h] at this
    simp [hs, hn] at this
  | some x =>
    have hx := List.find?_some hf
    unfold cand at hx
    rw [Bool.and_eq_true] at hx
    obtain ⟨k, q, rfl, hk, hq⟩ := act_is hx.2
    exact ⟨k, q, rfl, by simpa using hx.1, hk, hq⟩
/-- If there is none: that one, or the first choice, or none. -/
theorem cho_no {l : List Pth} {pr no : Int} (h : ¬ ∃ (j : Nat) (p : Pth), j < l.length ∧ l[j]? = some p ∧ p.state = 2 ∧ (j : Int) ≠ no) : chooseF l pr no = if act l no = true then no else if isIn pr l.length = true then pr else -1 := by
  unfold chooseF
  cases hf : (ordL l.length pr).find? (cand l no) with
  | none => rfl
  | some x =>
    have hx := List.find?_some hf
    unfold cand at hx
    rw [Bool.and_eq_true] at hx
    obtain ⟨k, q, rfl, hk, hq⟩ := act_is hx.2
    exact absurd ⟨k, q, (List.getElem?_eq_some_iff.1 hk).1, hk, hq, by simpa using hx.1⟩ h
theorem cho_fin {cc pr : Int} {n : Nat} (h : cc = if isIn pr n = true then pr else -1) : cc = pr ∨ (cc = -1 ∧ pr ≠ -1 ∧ pr < 0) ∨ (cc = -1 ∧ pr ≠ -1 ∧ 0 ≤ pr ∧ n ≤ pr) := by
  subst h
  by_cases h : isIn pr n = true
  · rw [if_pos h]; exact .inl rfl
  · rw [if_neg h]
    have : ¬ (0 ≤ pr ∧ pr < n) := fun h' => h (isIn_iff.2 h')
    by_cases h1 : pr = -1
    · exact .inl h1.symm
    · by_cases h2 : pr < 0
      · exact .inr (.inl ⟨rfl, h1, h2⟩)
      · exact .inr (.inr ⟨rfl, h1, by omega, by omega⟩)
def ackAl (al i nonce now : Int) (l : List Pth) : Int := if ackB i nonce now l then 0 else al
def ackL (i nonce now : Int) (l : List Pth) : List Pth := if ackB i nonce now l then chg i heard (chg i (answered now) l) else l
def failAl (al i : Int) (n : Nat) : Int := if isIn i n then w64 (al + 1) else al
def failB (al i : Int) (n : Nat) : Bool := isIn i n && decide (10 < w64 (al + 1))
def goodAl (al i : Int) (n : Nat) : Int := if isIn i n then 0 else al
theorem ackL_len (i nonce now : Int) (l : List Pth) : (ackL i nonce now l).length = l.length := by
  unfold ackL
  split
  · rw [chg_len, chg_len]
  · rfl
theorem primF_len (al i : Int) (l : List Pth) : (primF al i l).2.1.length ≤ l.length := by
  unfold primF
  repeat' split
  all_goals simp
end Go.Proofs.Ytdfpfnofaiobgaa
