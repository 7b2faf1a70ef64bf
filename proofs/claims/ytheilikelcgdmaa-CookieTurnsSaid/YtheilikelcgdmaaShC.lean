/- The digest: a block, of the program. -/
import Derived.Test.YtheilikelcgdmaaShB
namespace Go.Proofs.Ytheilikelcgdmaa
open Go.RowKit
open Go.Proofs.Ytheilikelcgdmaa.Sha
set_option linter.unusedVariables false
set_option maxRecDepth 100000

def stv (s : St) : List W := [s.a, s.b, s.c, s.d, s.e, s.f, s.g, s.h]
/-- The first i sums, the rest as it was. -/
def mix (xs ys : List W) (i : Nat) : List W := (List.range 8).map fun j => if j < i then xs.getD j 0 + ys.getD j 0 else xs.getD j 0
theorem mix_len (xs ys : List W) (i : Nat) : (mix xs ys i).length = 8 := by simp [mix]
theorem mix_at (xs ys : List W) (i j : Nat) (hj : j < 8) : (mix xs ys i)[j]? = some (if j < i then xs.getD j 0 + ys.getD j 0 else xs.getD j 0) := by simp [mix, List.getElem?_range hj]
theorem mix_cur (xs ys : List W) {i : Nat} (hi : i < 8) : (mix xs ys i)[i]? = some (xs.getD i 0) := by rw [mix_at xs ys i i hi, if_neg (by omega)]
theorem mix_set (xs ys : List W) {i : Nat} (hi : i < 8) : (mix xs ys i).set i (xs.getD i 0 + ys.getD i 0) = mix xs ys (i + 1) := by
  apply List.ext_getElem?
  intro j
  by_cases hj : j < 8
  · rw [List.getElem?_set, mix_at xs ys (i + 1) j hj]
    by_cases e : i = j
    · subst e; rw [if_pos rfl, if_pos (by rw [mix_len]; exact hi), if_pos (by omega)]
    · rw [if_neg e, mix_at xs ys i j hj]
      by_cases h1 : j < i
      · rw [if_pos h1, if_pos (by omega)]
      · rw [if_neg h1, if_neg (by omega)]
  · rw [List.getElem?_eq_none (by rw [List.length_set, mix_len]; omega), List.getElem?_eq_none (by rw [mix_len]; omega)]
theorem mix_zero (s t : St) : stv s = mix (stv s) (stv t) 0 := rfl
theorem mix_all (s t : St) : mix (stv s) (stv t) 8 = stv (s.add t) := rfl
theorem stv_get (s : St) {i : Nat} (hi : i < 8) : (stv s)[i]? = some ((stv s).getD i 0) := by
  rw [List.getD_eq_getElem?_getD, List.getElem?_eq_getElem hi]; rfl
theorem words_get (b : List UInt8) {t : Nat} (ht : t < 64) : (words b)[t]? = some ((words b).getD t 0) := by
  rw [List.getD_eq_getElem?_getD, List.getElem?_eq_getElem (by rw [words_len]; exact ht)]; rfl
theorem K_get {t : Nat} (ht : t < 64) : K[t]? = some (K.getD t 0) := by
  rw [List.getD_eq_getElem?_getD, List.getElem?_eq_getElem (by exact ht)]; rfl

set_option maxHeartbeats 8000000 in
theorem block_w (r : Nat) (r0 : St) (A : Option Addr) (c : Nat) (b : List UInt8) (w : World) (hS : Sat w (Bs [.box r 99 (wds (stv r0))]) [.box r 99 (wds (stv r0)), .vw A 64 1 (flat bc b)] w) :
    Calls Try.prog 51 #[.pointer (some ⟨r, 0, none⟩), .slice A 64 c] w
      fun e w' => ∃ v N, e = .returned v ∧ (v = .tuple #[] ∧ N = [.box r 99 (wds (stv (block r0 b)))]) ∧ Mod (Bs [.box r 99 (wds (stv r0))]) N w w' := by
  refine enterM _ _ hS Try.func51 rfl (by simp only [Try.ntmps51, List.length_cons, List.length_nil, Nat.reduceAdd, Nat.reduceSub]; rfl) ?_
  have hwl : (wds (words b)).length = 64 := by rw [wds_len, words_len]
  have hgw : ∀ t, t < 64 → (wds (words b))[t]? = some (wv ((words b).getD t 0)) := fun t ht => wds_get (words_get b ht)
  have hgk : ∀ t, t < 64 → (wds K)[t]? = some (wv (K.getD t 0)) := fun t ht => wds_get (K_get ht)
  have hkl : (wds K).length = 64 := rfl
  have hq := fun w hL => schedule_q A c b w hL
  have hk := constants_q
  obtain ⟨WW, hWW⟩ : ∃ l, wds (words b) = l := ⟨_, rfl⟩
  obtain ⟨KK, hKK⟩ : ∃ l, wds K = l := ⟨_, rfl⟩
  have hw1 : ∀ u ∈ WW, u.oneCell' = true := by rw [← hWW]; exact wds_one _
  have hk1 : ∀ u ∈ KK, u.oneCell' = true := by rw [← hKK]; exact wds_one _
  rw [hWW] at hwl hgw hq
  rw [hKK] at hkl hgk hk
  clear hWW hKK
  have hrl : (wds (stv r0)).length = 8 := rfl
  repeat' (first
    | refine goS ?_
    | ((with_reducible refine WL.isN_bin ?_); first | refine WL.yld rfl binQ ?_)
    | ((with_reducible refine WL.isN_load ?_); first | refine WL.yld rfl (Yld.loadAgg rfl rfl rfl rfl rfl (AggAt.boxAll 2 rfl hrl)) ?_ | refine WL.yld rfl loadQ ?_)
    | ((with_reducible refine WL.isN_iaddr ?_); first | refine WL.yld rfl iaddrQ ?_)
    | ((with_reducible refine WL.isN_call ?_); first | refine WL.step rfl (StepTo.callV (v := .agg WW.toArray) (us := [.slice A 64 c]) rfl rfl rfl rfl rfl (by kernel_rfl) (fun w hw => hq w (hw.lst 1 bc_len (by omega) rfl)) ?_) | refine WL.step rfl (StepTo.callV (v := .agg KK.toArray) (us := []) rfl rfl rfl rfl rfl (by kernel_rfl) (fun w hw => hk w) ?_))
    | ((with_reducible refine WL.isN_index ?_); first | refine WL.yld rfl (Yld.indexStr _ rfl rfl rfl rfl rfl (by assumption)) ?_)
    | ((with_reducible refine WL.isN_alloc ?_); first | refine WL.step rfl (StepTo.allocA rfl rfl rfl rfl (fun _ => ?_)) | refine WL.step rfl (StepTo.alloc1 rfl rfl rfl rfl rfl (fun _ => ?_)))
    | ((with_reducible refine WL.isN_store ?_); first | refine WL.step rfl (StepTo.stBA 1 rfl rfl rfl rfl rfl hw1 rfl rfl hwl setQ ?_) | refine WL.step rfl (StepTo.stBA 0 rfl rfl rfl rfl rfl hk1 rfl rfl hkl setQ ?_) | refine WL.step rfl (StepTo.stBA 0 rfl rfl rfl rfl rfl (wds_one (stv r0)) rfl rfl hrl setQ ?_) | refine WL.step rfl (StepTo.st1 rfl rfl rfl rfl rfl rfl ?_) | refine WL.step rfl (StepTo.stA rfl rfl rfl rfl rfl rfl rfl ?_) | refine WL.step rfl (StepTo.stR rfl rfl rfl rfl rfl rfl rfl ?_))
    | with_reducible refine WC.block ?_
    | (refine WC.cond rfl (fun hc => ?_) (fun hc => ?_) <;> (try first | (with_reducible replace hc := of_decide_eq_true hc) | (with_reducible replace hc := of_decide_eq_false hc) | (with_reducible replace hc := eqT hc) | (with_reducible replace hc := eqF hc) | (with_reducible replace hc := neT hc) | (with_reducible replace hc := neF hc) | (with_reducible replace hc := noT hc) | (with_reducible replace hc := noF hc)) <;> (try (exfalso; omega))))
  rename_i b4 b5 b6
  refine WC.loop (fun mm τ H => ∃ (t : Nat) (s : St), t ≤ 64 ∧ mm = 64 - t ∧ s = rnds b t r0 ∧
      τ = [(0, .pointer (some ⟨r, 0, none⟩)), (4, .pointer (some ⟨b4, 0, none⟩)), (5, .pointer (some ⟨b5, 0, none⟩)), (6, .pointer (some ⟨b6, 0, none⟩)), (20, .int .i64 t)] ∧
      H = [.box b6 99 [wv s.a, wv s.b, wv s.c, wv s.d, wv s.e, wv s.f, wv s.g, wv s.h], .box b5 111 KK, .box b4 111 WW, .box r 99 (wds (stv r0))])
    64 _ _ [0, 1, 2, 3] ?_ ?_ ⟨0, r0, by omega, rfl, rfl, rfl, rfl⟩ ?_
  · exact (by repeat (first | exact Sub.nil | refine Sub.cons rfl ?_ | refine Sub.consE rfl (int_eq (by omega)) ?_))
  · exact ⟨by decide, rfl⟩
  rintro mm τ H ⟨t, s, ht, rfl, hs, rfl, rfl⟩
  by_cases htl : t < 64
  · have cw := hgw t htl
    have ck := hgk t htl
    obtain ⟨s', hs'⟩ : ∃ s', s' = rnd (K.getD t 0) ((words b).getD t 0) s := ⟨_, rfl⟩
    have hn : s' = rnds b (t + 1) r0 := by rw [hs', hs]; rfl
    generalize K.getD t 0 = k at *
    generalize (words b).getD t 0 = x at *
    clear hs
    obtain ⟨O, hO⟩ : ∃ O, one k x s = O := ⟨_, rfl⟩
    obtain ⟨T, hT⟩ : ∃ T, two s = T := ⟨_, rfl⟩
    have hOv : wv (one k x s) = wv O := by rw [hO]
    have hTv : wv (two s) = wv T := by rw [hT]
    have hfin : s' = ⟨O + T, s.a, s.b, s.c, s.d + O, s.e, s.f, s.g⟩ := by rw [hs', ← hO, ← hT]; rfl
    clear hs' hO hT
    unfold one at hOv
    unfold two at hTv
    repeat' (first
    | with_reducible refine WL.nil ?_
    | with_reducible refine WQ.thenN ?_
    | with_reducible refine WQ.code ?_
    | with_reducible refine WC.seq ?_
    | with_reducible refine WC.region ?_
    | ((with_reducible refine WL.isN_move ?_); first | refine WL.yld rfl (Yld.pure rfl nrmQ) ?_)
    | ((with_reducible refine WK.isN_move ?_); first | refine WK.yld rfl (Yld.pure rfl nrmQ) ?_)
    | ((with_reducible refine WL.isN_assign ?_); first | refine WL.yld rfl (Yld.pure rfl nrmQ) ?_)
    | ((with_reducible refine WK.isN_assign ?_); first | refine WK.yld rfl (Yld.pure rfl nrmQ) ?_)
    | ((with_reducible refine WL.isN_bin ?_); first | refine WL.yld rfl (Yld.pure rfl wXor) ?_ | refine WL.yld rfl (Yld.pure rfl (wAdd.trans hOv)) ?_ | refine WL.yld rfl (Yld.pure rfl (wAdd.trans hTv)) ?_ | refine WL.yld rfl (Yld.pure rfl wAdd) ?_ | refine WL.yld rfl (Yld.pure rfl wAnd) ?_ | refine WL.yld rfl (Yld.pure rfl nrmQ) ?_ | refine WL.yld rfl (Yld.rem rfl rfl rfl rfl (by omega) (by omega)) ?_ | refine WL.yld rfl (Yld.quo rfl rfl rfl rfl (by omega) (by omega) nrmQ) ?_ | refine WL.yld rfl (Yld.eqlB rfl rfl rfl rfl) ?_ | refine WL.yld rfl (Yld.neqB rfl rfl rfl rfl) ?_ | refine WL.yld rfl (Yld.eqlA 4 rfl rfl rfl (by kernel_rfl) (by kernel_rfl) rfl rfl) ?_ | refine WL.yld rfl (Yld.neqA 4 rfl rfl rfl (by kernel_rfl) (by kernel_rfl) rfl rfl) ?_ | refine WL.yld rfl (Yld.quoT rfl rfl rfl rfl (by omega) nrmQ) ?_)
    | ((with_reducible refine WK.isN_bin ?_); first | refine WK.yld rfl (Yld.pure rfl wXor) ?_ | refine WK.yld rfl (Yld.pure rfl (wAdd.trans hOv)) ?_ | refine WK.yld rfl (Yld.pure rfl (wAdd.trans hTv)) ?_ | refine WK.yld rfl (Yld.pure rfl wAdd) ?_ | refine WK.yld rfl (Yld.pure rfl wAnd) ?_ | refine WK.yld rfl (Yld.pure rfl nrmQ) ?_ | refine WK.yld rfl (Yld.rem rfl rfl rfl rfl (by omega) (by omega)) ?_ | refine WK.yld rfl (Yld.quo rfl rfl rfl rfl (by omega) (by omega) nrmQ) ?_ | refine WK.yld rfl (Yld.eqlB rfl rfl rfl rfl) ?_ | refine WK.yld rfl (Yld.neqB rfl rfl rfl rfl) ?_ | refine WK.yld rfl (Yld.eqlA 4 rfl rfl rfl (by kernel_rfl) (by kernel_rfl) rfl rfl) ?_ | refine WK.yld rfl (Yld.neqA 4 rfl rfl rfl (by kernel_rfl) (by kernel_rfl) rfl rfl) ?_ | refine WK.yld rfl (Yld.quoT rfl rfl rfl rfl (by omega) nrmQ) ?_)
    | ((with_reducible refine WL.isN_un ?_); first | refine WL.yld rfl (Yld.notW rfl rfl) ?_ | refine WL.yld rfl (Yld.pure rfl nrmQ) ?_)
    | ((with_reducible refine WK.isN_un ?_); first | refine WK.yld rfl (Yld.notW rfl rfl) ?_ | refine WK.yld rfl (Yld.pure rfl nrmQ) ?_)
    | ((with_reducible refine WL.isN_nil ?_); first | refine WL.yld rfl (Yld.pure rfl nrmQ) ?_)
    | ((with_reducible refine WK.isN_nil ?_); first | refine WK.yld rfl (Yld.pure rfl nrmQ) ?_)
    | ((with_reducible refine WL.isN_load ?_); first | refine WL.yld rfl (Yld.load rfl rfl rfl rfl (CellAt.boxE 1 rfl ck (by omega))) ?_ | refine WL.yld rfl (Yld.load rfl rfl rfl rfl (CellAt.boxE 2 rfl cw (by omega))) ?_ | refine WL.yld rfl (Yld.load rfl rfl rfl rfl cellQ) ?_ | refine WL.yld rfl (Yld.loadAgg rfl rfl rfl rfl rfl aggQ) ?_)
    | ((with_reducible refine WK.isN_load ?_); first | refine WK.yld rfl (Yld.load rfl rfl rfl rfl (CellAt.boxE 1 rfl ck (by omega))) ?_ | refine WK.yld rfl (Yld.load rfl rfl rfl rfl (CellAt.boxE 2 rfl cw (by omega))) ?_ | refine WK.yld rfl (Yld.load rfl rfl rfl rfl cellQ) ?_ | refine WK.yld rfl (Yld.loadAgg rfl rfl rfl rfl rfl aggQ) ?_)
    | ((with_reducible refine WL.isN_iaddr ?_); first | refine WL.yld rfl (Yld.indexA t rfl rfl rfl rfl rfl rfl (by omega)) ?_ | refine WL.yld rfl (Yld.indexA 0 rfl rfl rfl rfl rfl rfl (by omega)) ?_ | refine WL.yld rfl (Yld.indexA 1 rfl rfl rfl rfl rfl rfl (by omega)) ?_ | refine WL.yld rfl (Yld.indexA 2 rfl rfl rfl rfl rfl rfl (by omega)) ?_ | refine WL.yld rfl (Yld.indexA 3 rfl rfl rfl rfl rfl rfl (by omega)) ?_ | refine WL.yld rfl (Yld.indexA 4 rfl rfl rfl rfl rfl rfl (by omega)) ?_ | refine WL.yld rfl (Yld.indexA 5 rfl rfl rfl rfl rfl rfl (by omega)) ?_ | refine WL.yld rfl (Yld.indexA 6 rfl rfl rfl rfl rfl rfl (by omega)) ?_ | refine WL.yld rfl (Yld.indexA 7 rfl rfl rfl rfl rfl rfl (by omega)) ?_ | refine WL.yld rfl (Yld.indexS 0 rfl rfl rfl rfl rfl rfl (by omega)) ?_ | refine WL.yld rfl (Yld.indexS 1 rfl rfl rfl rfl rfl rfl (by omega)) ?_ | refine WL.yld rfl (Yld.indexS 2 rfl rfl rfl rfl rfl rfl (by omega)) ?_ | refine WL.yld rfl (Yld.indexS _ rfl rfl rfl rfl rfl rfl (by omega)) ?_ | refine WL.yld rfl (Yld.indexA 0 rfl rfl rfl rfl rfl rfl (by omega)) ?_ | refine WL.yld rfl (Yld.indexA 1 rfl rfl rfl rfl rfl rfl (by omega)) ?_ | refine WL.yld rfl (Yld.indexA _ rfl rfl rfl rfl rfl rfl (by omega)) ?_)
    | ((with_reducible refine WK.isN_iaddr ?_); first | refine WK.yld rfl (Yld.indexA t rfl rfl rfl rfl rfl rfl (by omega)) ?_ | refine WK.yld rfl (Yld.indexA 0 rfl rfl rfl rfl rfl rfl (by omega)) ?_ | refine WK.yld rfl (Yld.indexA 1 rfl rfl rfl rfl rfl rfl (by omega)) ?_ | refine WK.yld rfl (Yld.indexA 2 rfl rfl rfl rfl rfl rfl (by omega)) ?_ | refine WK.yld rfl (Yld.indexA 3 rfl rfl rfl rfl rfl rfl (by omega)) ?_ | refine WK.yld rfl (Yld.indexA 4 rfl rfl rfl rfl rfl rfl (by omega)) ?_ | refine WK.yld rfl (Yld.indexA 5 rfl rfl rfl rfl rfl rfl (by omega)) ?_ | refine WK.yld rfl (Yld.indexA 6 rfl rfl rfl rfl rfl rfl (by omega)) ?_ | refine WK.yld rfl (Yld.indexA 7 rfl rfl rfl rfl rfl rfl (by omega)) ?_ | refine WK.yld rfl (Yld.indexS 0 rfl rfl rfl rfl rfl rfl (by omega)) ?_ | refine WK.yld rfl (Yld.indexS 1 rfl rfl rfl rfl rfl rfl (by omega)) ?_ | refine WK.yld rfl (Yld.indexS 2 rfl rfl rfl rfl rfl rfl (by omega)) ?_ | refine WK.yld rfl (Yld.indexS _ rfl rfl rfl rfl rfl rfl (by omega)) ?_ | refine WK.yld rfl (Yld.indexA 0 rfl rfl rfl rfl rfl rfl (by omega)) ?_ | refine WK.yld rfl (Yld.indexA 1 rfl rfl rfl rfl rfl rfl (by omega)) ?_ | refine WK.yld rfl (Yld.indexA _ rfl rfl rfl rfl rfl rfl (by omega)) ?_)
    | ((with_reducible refine WL.isN_call ?_); first | refine WK.step rfl (Qui.call (v := wv (rr s.e 6)) (us := [wv s.e, .int .i64 6]) rfl rfl rfl (by kernel_rfl) (fun w _ => turn_q s.e 6 (by omega) (by omega) w)) ?_ | refine WK.step rfl (Qui.call (v := wv (rr s.e 11)) (us := [wv s.e, .int .i64 11]) rfl rfl rfl (by kernel_rfl) (fun w _ => turn_q s.e 11 (by omega) (by omega) w)) ?_ | refine WK.step rfl (Qui.call (v := wv (rr s.e 25)) (us := [wv s.e, .int .i64 25]) rfl rfl rfl (by kernel_rfl) (fun w _ => turn_q s.e 25 (by omega) (by omega) w)) ?_ | refine WK.step rfl (Qui.call (v := wv (rr s.a 2)) (us := [wv s.a, .int .i64 2]) rfl rfl rfl (by kernel_rfl) (fun w _ => turn_q s.a 2 (by omega) (by omega) w)) ?_ | refine WK.step rfl (Qui.call (v := wv (rr s.a 13)) (us := [wv s.a, .int .i64 13]) rfl rfl rfl (by kernel_rfl) (fun w _ => turn_q s.a 13 (by omega) (by omega) w)) ?_ | refine WK.step rfl (Qui.call (v := wv (rr s.a 22)) (us := [wv s.a, .int .i64 22]) rfl rfl rfl (by kernel_rfl) (fun w _ => turn_q s.a 22 (by omega) (by omega) w)) ?_)
    | ((with_reducible refine WK.isN_call ?_); first | refine WK.step rfl (Qui.call (v := wv (rr s.e 6)) (us := [wv s.e, .int .i64 6]) rfl rfl rfl (by kernel_rfl) (fun w _ => turn_q s.e 6 (by omega) (by omega) w)) ?_ | refine WK.step rfl (Qui.call (v := wv (rr s.e 11)) (us := [wv s.e, .int .i64 11]) rfl rfl rfl (by kernel_rfl) (fun w _ => turn_q s.e 11 (by omega) (by omega) w)) ?_ | refine WK.step rfl (Qui.call (v := wv (rr s.e 25)) (us := [wv s.e, .int .i64 25]) rfl rfl rfl (by kernel_rfl) (fun w _ => turn_q s.e 25 (by omega) (by omega) w)) ?_ | refine WK.step rfl (Qui.call (v := wv (rr s.a 2)) (us := [wv s.a, .int .i64 2]) rfl rfl rfl (by kernel_rfl) (fun w _ => turn_q s.a 2 (by omega) (by omega) w)) ?_ | refine WK.step rfl (Qui.call (v := wv (rr s.a 13)) (us := [wv s.a, .int .i64 13]) rfl rfl rfl (by kernel_rfl) (fun w _ => turn_q s.a 13 (by omega) (by omega) w)) ?_ | refine WK.step rfl (Qui.call (v := wv (rr s.a 22)) (us := [wv s.a, .int .i64 22]) rfl rfl rfl (by kernel_rfl) (fun w _ => turn_q s.a 22 (by omega) (by omega) w)) ?_)
    | ((with_reducible refine WL.isN_index ?_); first | refine WL.yld rfl (Yld.indexStr _ rfl rfl rfl rfl rfl (by assumption)) ?_)
    | ((with_reducible refine WK.isN_index ?_); first | refine WK.yld rfl (Yld.indexStr _ rfl rfl rfl rfl rfl (by assumption)) ?_)
    | ((with_reducible refine WL.isN_alloc ?_); first | refine WL.step rfl (StepTo.allocA rfl rfl rfl rfl (fun _ => ?_)) | refine WL.step rfl (StepTo.alloc1 rfl rfl rfl rfl rfl (fun _ => ?_)))
    | ((with_reducible refine WL.isN_store ?_); first | refine WL.step rfl (StepTo.st1 rfl rfl rfl rfl rfl rfl ?_) | refine WL.step rfl (StepTo.stA rfl rfl rfl rfl rfl rfl rfl ?_) | refine WL.step rfl (StepTo.stR rfl rfl rfl rfl rfl rfl rfl ?_))
    | with_reducible refine WC.block ?_
    | with_reducible refine WC.scope ?_
    | with_reducible refine WC.label ?_
    | with_reducible refine WQ.ngN ?_
    | with_reducible refine WQ.ngR ?_
    | with_reducible refine WQ.ngX ?_
    | with_reducible refine WC.skip ?_
    | with_reducible refine WC.ret ?_
    | with_reducible refine WC.exit ?_
    | with_reducible refine WQ.thenR ?_
    | with_reducible refine WQ.thenX ?_
    | with_reducible refine WQ.blkN ?_
    | with_reducible refine WQ.blkR ?_
    | ((with_reducible refine WQ.blkX ?_ ?_); focus rfl)
    | ((with_reducible refine WQ.blkY ?_ ?_); focus rfl)
    | (refine WC.quiet (i := 5) (by kernel_rfl) (by kernel_rfl) ?_)
    | (refine WC.quiet (i := 6) (by kernel_rfl) (by kernel_rfl) ?_)
    | (refine WC.quiet (i := 7) (by kernel_rfl) (by kernel_rfl) ?_)
    | with_reducible refine WK.nil ?_
    | refine WC.condT rfl ?_
    | refine WC.condF rfl ?_
    | refine WC.condTh rfl gdQ ?_
    | refine WC.condFh rfl gdQ ?_
    | (refine WC.cond rfl (fun hc => ?_) (fun hc => ?_) <;> (try first | (with_reducible replace hc := of_decide_eq_true hc) | (with_reducible replace hc := of_decide_eq_false hc) | (with_reducible replace hc := eqT hc) | (with_reducible replace hc := eqF hc) | (with_reducible replace hc := neT hc) | (with_reducible replace hc := neF hc) | (with_reducible replace hc := noT hc) | (with_reducible replace hc := noF hc)) <;> (try (exfalso; omega))))
    refine WC.tail 2 (by kernel_rfl) (by kernel_rfl) ?_
    simp only [List.take_succ_cons, List.take_zero, List.drop_succ_cons, List.drop_zero]
    repeat (first | refine WT.yld rfl (Yld.sliceALo (m := 8) (lo := 1) rfl rfl rfl (by kernel_rfl) (by kernel_rfl) (by kernel_rfl) rfl (by omega)) ?_ | refine WT.yld rfl (Yld.sliceAHi (m := 8) (hi := 7) rfl rfl rfl (by kernel_rfl) (by kernel_rfl) (by kernel_rfl) rfl (by omega) (by omega)) ?_ | refine WT.yld rfl (Yld.pure rfl nrmQ) ?_)
    refine WT.nil ?_
    refine WL.step rfl (StepTo.copyBox (vs := [wv s.a, wv s.b, wv s.c, wv s.d, wv s.e, wv s.f, wv s.g]) 0 rfl rfl rfl rfl rfl rfl rfl rfl (CellsAt.box (m := 7) 0 rfl rfl) rfl (by simp) (by intro u hu; simp at hu; rcases hu with rfl | rfl | rfl | rfl | rfl | rfl | rfl <;> rfl) rfl setQ ?_)
    repeat' (first
    | refine goS ?_
    | ((with_reducible refine WL.isN_bin ?_); first | refine WL.yld rfl (Yld.pure rfl wAdd) ?_ | refine WL.yld rfl binQ ?_)
    | ((with_reducible refine WL.isN_load ?_); first | refine WL.yld rfl loadQ ?_)
    | ((with_reducible refine WL.isN_iaddr ?_); first | refine WL.yld rfl (Yld.indexA 0 rfl rfl rfl rfl rfl rfl (by omega)) ?_ | refine WL.yld rfl (Yld.indexA 4 rfl rfl rfl rfl rfl rfl (by omega)) ?_ | refine WL.yld rfl iaddrQ ?_)
    | ((with_reducible refine WL.isN_index ?_); first | refine WL.yld rfl (Yld.indexStr _ rfl rfl rfl rfl rfl (by assumption)) ?_)
    | ((with_reducible refine WL.isN_alloc ?_); first | refine WL.step rfl (StepTo.allocA rfl rfl rfl rfl (fun _ => ?_)) | refine WL.step rfl (StepTo.alloc1 rfl rfl rfl rfl rfl (fun _ => ?_)))
    | ((with_reducible refine WL.isN_store ?_); first | refine WL.step rfl (StepTo.st1 rfl rfl rfl rfl rfl rfl ?_) | refine WL.step rfl (StepTo.stA rfl rfl rfl rfl rfl rfl rfl ?_) | refine WL.step rfl (StepTo.stR rfl rfl rfl rfl rfl rfl rfl ?_))
    | with_reducible refine WC.block ?_
    | (refine WC.cond rfl (fun hc => ?_) (fun hc => ?_) <;> (try first | (with_reducible replace hc := of_decide_eq_true hc) | (with_reducible replace hc := of_decide_eq_false hc) | (with_reducible replace hc := eqT hc) | (with_reducible replace hc := eqF hc) | (with_reducible replace hc := neT hc) | (with_reducible replace hc := neF hc) | (with_reducible replace hc := noT hc) | (with_reducible replace hc := noF hc)) <;> (try (exfalso; omega))))
    exact WQ.rnd (64 - (t + 1)) _ _ [0, 1, 2, 3] (by repeat (first | exact Sub.nil | refine Sub.cons rfl ?_ | refine Sub.consE rfl (int_eq (by omega)) ?_)) ⟨by decide, rfl⟩ (by omega) ⟨t + 1, ⟨O + T, s.a, s.b, s.c, s.d + O, s.e, s.f, s.g⟩, by omega, rfl, by rw [← hfin]; exact hn, rfl, rfl⟩
  obtain rfl : t = 64 := by omega
  have hbl : Sha.block r0 b = r0.add s := by rw [hs]; rfl
  rw [hbl]
  clear hs hbl hgw hgk hq hk
  repeat' (first
    | refine goS ?_
    | ((with_reducible refine WL.isN_bin ?_); first | refine WL.yld rfl binQ ?_)
    | ((with_reducible refine WL.isN_load ?_); first | refine WL.yld rfl (Yld.loadAgg rfl rfl rfl rfl rfl (AggAt.boxAll 0 rfl rfl)) ?_ | refine WL.yld rfl loadQ ?_)
    | ((with_reducible refine WL.isN_iaddr ?_); first | refine WL.yld rfl iaddrQ ?_)
    | ((with_reducible refine WL.isN_index ?_); first | refine WL.yld rfl (Yld.indexStr _ rfl rfl rfl rfl rfl (by assumption)) ?_)
    | ((with_reducible refine WL.isN_alloc ?_); first | refine WL.step rfl (StepTo.allocA rfl rfl rfl rfl (fun _ => ?_)) | refine WL.step rfl (StepTo.alloc1 rfl rfl rfl rfl rfl (fun _ => ?_)))
    | ((with_reducible refine WL.isN_store ?_); first | refine WL.step rfl (StepTo.st1 rfl rfl rfl rfl rfl rfl ?_) | refine WL.step rfl (StepTo.stA rfl rfl rfl rfl rfl rfl rfl ?_) | refine WL.step rfl (StepTo.stR rfl rfl rfl rfl rfl rfl rfl ?_))
    | with_reducible refine WC.block ?_
    | (refine WC.cond rfl (fun hc => ?_) (fun hc => ?_) <;> (try first | (with_reducible replace hc := of_decide_eq_true hc) | (with_reducible replace hc := of_decide_eq_false hc) | (with_reducible replace hc := eqT hc) | (with_reducible replace hc := eqF hc) | (with_reducible replace hc := neT hc) | (with_reducible replace hc := neF hc) | (with_reducible replace hc := noT hc) | (with_reducible replace hc := noF hc)) <;> (try (exfalso; omega))))
  refine WC.loop (fun mm τ H => ∃ (i : Nat) (L : List W), i ≤ 8 ∧ mm = 8 - i ∧ L = mix (stv r0) (stv s) i ∧
      τ = [(0, .pointer (some ⟨r, 0, none⟩)), (94, .agg (wds (stv s)).toArray), (95, .int .i64 i)] ∧ H = [.box r 99 (wds L)])
    8 _ _ [3] ?_ ?_ ⟨0, stv r0, by omega, rfl, mix_zero r0 s, rfl, rfl⟩ ?_
  · exact (by repeat (first | exact Sub.nil | refine Sub.cons rfl ?_ | refine Sub.consE rfl (int_eq (by omega)) ?_))
  · exact ⟨by decide, rfl⟩
  rintro mm τ H ⟨i, L, hi, rfl, hL, rfl, rfl⟩
  by_cases hil : i < 8
  · have hcur : (wds L)[i]? = some (wv ((stv r0).getD i 0)) := wds_get (by rw [hL]; exact mix_cur _ _ hil)
    have hys : (wds (stv s))[i]? = some (wv ((stv s).getD i 0)) := wds_get (stv_get s hil)
    have hset : (wds L).set i (wv ((stv r0).getD i 0 + (stv s).getD i 0)) = wds (mix (stv r0) (stv s) (i + 1)) := by rw [wds_set, hL]; exact congrArg wds (mix_set _ _ hil)
    have hll : i < (wds L).length := by rw [wds_len, hL, mix_len]; omega
    obtain ⟨L', hL'⟩ : ∃ L', L' = mix (stv r0) (stv s) (i + 1) := ⟨_, rfl⟩
    rw [← hL'] at hset
    generalize (stv r0).getD i 0 = x at *
    generalize (stv s).getD i 0 = y at *
    clear hL
    generalize wds (stv s) = YS at *
    repeat' (first
    | refine goS ?_
    | ((with_reducible refine WL.isN_bin ?_); first | refine WL.yld rfl binQ ?_)
    | ((with_reducible refine WL.isN_load ?_); first | refine WL.yld rfl loadQ ?_)
    | ((with_reducible refine WL.isN_iaddr ?_); first | refine WL.yld rfl iaddrQ ?_)
    | ((with_reducible refine WL.isN_index ?_); first | refine WL.yld rfl (Yld.indexArr i rfl rfl rfl rfl rfl rfl rfl (by omega) hys) ?_ | refine WL.yld rfl (Yld.indexStr _ rfl rfl rfl rfl rfl (by assumption)) ?_)
    | ((with_reducible refine WL.isN_alloc ?_); first | refine WL.step rfl (StepTo.allocA rfl rfl rfl rfl (fun _ => ?_)) | refine WL.step rfl (StepTo.alloc1 rfl rfl rfl rfl rfl (fun _ => ?_)))
    | ((with_reducible refine WL.isN_store ?_); first | refine WL.step rfl (StepTo.st1 rfl rfl rfl rfl rfl rfl ?_) | refine WL.step rfl (StepTo.stA rfl rfl rfl rfl rfl rfl rfl ?_) | refine WL.step rfl (StepTo.stR rfl rfl rfl rfl rfl rfl rfl ?_))
    | with_reducible refine WC.block ?_
    | (refine WC.cond rfl (fun hc => ?_) (fun hc => ?_) <;> (try first | (with_reducible replace hc := of_decide_eq_true hc) | (with_reducible replace hc := of_decide_eq_false hc) | (with_reducible replace hc := eqT hc) | (with_reducible replace hc := eqF hc) | (with_reducible replace hc := neT hc) | (with_reducible replace hc := neF hc) | (with_reducible replace hc := noT hc) | (with_reducible replace hc := noF hc)) <;> (try (exfalso; omega))))
    refine WC.tail 9 (by kernel_rfl) (by kernel_rfl) ?_
    simp only [List.take_succ_cons, List.take_zero, List.drop_succ_cons, List.drop_zero]
    repeat (first | refine WT.yld rfl (Yld.indexA i rfl rfl rfl rfl rfl rfl (by omega)) ?_ | refine WT.yld rfl (Yld.load rfl rfl rfl rfl (CellAt.boxE 0 rfl hcur (by omega))) ?_ | refine WT.yld rfl (Yld.pure rfl wAdd) ?_ | refine WT.yld rfl (Yld.pure rfl nrmQ) ?_)
    refine WT.nil ?_
    refine WL.step rfl (StepTo.stB 0 rfl rfl rfl rfl rfl rfl rfl rfl (by omega) hll hset setQ ?_)
    repeat' (first
    | refine goS ?_
    | ((with_reducible refine WL.isN_bin ?_); first | refine WL.yld rfl binQ ?_)
    | ((with_reducible refine WL.isN_load ?_); first | refine WL.yld rfl loadQ ?_)
    | ((with_reducible refine WL.isN_iaddr ?_); first | refine WL.yld rfl iaddrQ ?_)
    | ((with_reducible refine WL.isN_index ?_); first | refine WL.yld rfl (Yld.indexStr _ rfl rfl rfl rfl rfl (by assumption)) ?_)
    | ((with_reducible refine WL.isN_alloc ?_); first | refine WL.step rfl (StepTo.allocA rfl rfl rfl rfl (fun _ => ?_)) | refine WL.step rfl (StepTo.alloc1 rfl rfl rfl rfl rfl (fun _ => ?_)))
    | ((with_reducible refine WL.isN_store ?_); first | refine WL.step rfl (StepTo.st1 rfl rfl rfl rfl rfl rfl ?_) | refine WL.step rfl (StepTo.stA rfl rfl rfl rfl rfl rfl rfl ?_) | refine WL.step rfl (StepTo.stR rfl rfl rfl rfl rfl rfl rfl ?_))
    | with_reducible refine WC.block ?_
    | (refine WC.cond rfl (fun hc => ?_) (fun hc => ?_) <;> (try first | (with_reducible replace hc := of_decide_eq_true hc) | (with_reducible replace hc := of_decide_eq_false hc) | (with_reducible replace hc := eqT hc) | (with_reducible replace hc := eqF hc) | (with_reducible replace hc := neT hc) | (with_reducible replace hc := neF hc) | (with_reducible replace hc := noT hc) | (with_reducible replace hc := noF hc)) <;> (try (exfalso; omega))))
    exact WQ.rnd (8 - (i + 1)) _ _ [0] (by repeat (first | exact Sub.nil | refine Sub.cons rfl ?_ | refine Sub.consE rfl (int_eq (by omega)) ?_)) ⟨by decide, rfl⟩ (by omega) ⟨i + 1, L', by omega, rfl, hL', rfl, rfl⟩
  obtain rfl : i = 8 := by omega
  rw [mix_all] at hL
  repeat' (first
    | refine goS ?_
    | ((with_reducible refine WL.isN_bin ?_); first | refine WL.yld rfl binQ ?_)
    | ((with_reducible refine WL.isN_load ?_); first | refine WL.yld rfl loadQ ?_)
    | ((with_reducible refine WL.isN_iaddr ?_); first | refine WL.yld rfl iaddrQ ?_)
    | ((with_reducible refine WL.isN_index ?_); first | refine WL.yld rfl (Yld.indexStr _ rfl rfl rfl rfl rfl (by assumption)) ?_)
    | ((with_reducible refine WL.isN_alloc ?_); first | refine WL.step rfl (StepTo.allocA rfl rfl rfl rfl (fun _ => ?_)) | refine WL.step rfl (StepTo.alloc1 rfl rfl rfl rfl rfl (fun _ => ?_)))
    | ((with_reducible refine WL.isN_store ?_); first | refine WL.step rfl (StepTo.st1 rfl rfl rfl rfl rfl rfl ?_) | refine WL.step rfl (StepTo.stA rfl rfl rfl rfl rfl rfl rfl ?_) | refine WL.step rfl (StepTo.stR rfl rfl rfl rfl rfl rfl rfl ?_))
    | with_reducible refine WC.block ?_
    | (refine WC.cond rfl (fun hc => ?_) (fun hc => ?_) <;> (try first | (with_reducible replace hc := of_decide_eq_true hc) | (with_reducible replace hc := of_decide_eq_false hc) | (with_reducible replace hc := eqT hc) | (with_reducible replace hc := eqF hc) | (with_reducible replace hc := neT hc) | (with_reducible replace hc := neF hc) | (with_reducible replace hc := noT hc) | (with_reducible replace hc := noF hc)) <;> (try (exfalso; omega))))
  exact WQ.bodyN (Reads.none rfl) fun w' hw' => ⟨_, _, rfl, ⟨rfl, by rw [hL]⟩, hw'.toMod (by simp [Item.mine])⟩
end Go.Proofs.Ytheilikelcgdmaa
