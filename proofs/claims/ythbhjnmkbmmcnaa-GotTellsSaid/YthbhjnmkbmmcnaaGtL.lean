/- The law GotTells. -/
import Derived.Test.YthbhjnmkbmmcnaaGtA
namespace Go.Proofs.Ythbhjnmkbmmcnaa
open Go.RowKit Go.IntWalk
set_option linter.unusedVariables false
set_option linter.unusedSimpArgs false
set_option linter.unusedSectionVars false
set_option maxRecDepth 100000

theorem Rising.snoc {out : List (Nat × Nat)} {d : Nat} (h : Rising out) (h2 : 2 ≤ d) (h6 : d ≤ 60000) (hl : ∀ p, out[out.length - 1]? = some p → p.2 < d) : Rising (Gt.dstep out d) := by
  have happ : (∀ p, out[out.length - 1]? = some p → p.2 + 1 ≠ d) → Rising (out ++ [(d, d)]) := fun hne i p hp => by
    by_cases hi : i < out.length
    · rw [List.getElem?_append_left hi] at hp
      obtain ⟨a1, a2, a3, a4⟩ := h i p hp
      exact ⟨a1, a2, a3, fun q h0 hq => a4 q h0 (by rw [List.getElem?_append_left (by omega)] at hq; exact hq)⟩
    · rw [List.getElem?_append_right (by omega)] at hp
      have hi0 : i - out.length = 0 := by
        cases hh : i - out.length with
        | zero => rfl
        | succ j => rw [hh] at hp; simp at hp
      rw [hi0] at hp
      simp at hp
      subst hp
      refine ⟨h2, Nat.le_refl _, h6, fun q h0 hq => ?_⟩
      have hie : i = out.length := by omega
      subst hie
      rw [List.getElem?_append_left (by omega)] at hq
      have b1 := hl q hq
      have b2 := hne q hq
      omega
  unfold Gt.dstep
  split
  · rename_i q hq
    have hq2 := hl q hq
    split
    · rename_i he
      intro i p hp
      have hlen : 0 < out.length := by
        cases out with
        | nil => simp at hq
        | cons _ _ => simp
      by_cases hi : i = out.length - 1
      · subst hi
        rw [List.getElem?_set_self (by omega)] at hp
        injection hp with hp
        subst hp
        obtain ⟨a1, a2, a3, a4⟩ := h _ q hq
        exact ⟨a1, by show q.1 ≤ d; omega, h6, fun q' h0 hq' => a4 q' h0 (by rw [List.getElem?_set_ne (by omega)] at hq'; exact hq')⟩
      · rw [List.getElem?_set_ne (by omega)] at hp
        obtain ⟨a1, a2, a3, a4⟩ := h i p hp
        refine ⟨a1, a2, a3, fun q' h0 hq' => a4 q' h0 ?_⟩
        rw [List.getElem?_set_ne (by
          obtain ⟨hh, _⟩ := List.getElem?_eq_some_iff.1 hp
          omega)] at hq'
        exact hq'
    · rename_i he
      exact happ fun p hp => by rw [hq] at hp; injection hp with hp; rw [← hp]; exact he
  · rename_i hn
    exact happ fun p hp => by rw [hn] at hp; cases hp
theorem rising_druns {D : List Nat} (h : Gt.Ok D) : Rising (Gt.druns D) := by
  have hk : ∀ k, k ≤ D.length → Rising (Gt.druns (D.take k)) := fun k => by
    induction k with
    | zero => intro _ i p hp; simp [Gt.druns] at hp
    | succ k ih =>
      intro hk
      obtain ⟨d, hd⟩ : ∃ d, D[k]? = some d := ⟨_, List.getElem?_eq_getElem (by omega)⟩
      rw [List.take_add_one, hd]
      show Rising (Gt.druns (D.take k ++ [d]))
      rw [Gt.druns_snoc]
      have hm := List.mem_of_getElem? hd
      refine (ih (by omega)).snoc (h.lo d hm) (by have := h.hi d hm; omega) fun p hp => ?_
      have hin := (Gt.druns_mem (S := fun x => x ∈ D.take k) (D := D.take k) (fun e he => he) p (List.mem_of_getElem? hp)).2
      obtain ⟨j, hj, e⟩ := List.getElem_of_mem hin
      rw [List.length_take] at hj
      rw [List.getElem_take] at e
      obtain ⟨h2, e2⟩ := List.getElem?_eq_some_iff.1 hd
      have := List.pairwise_iff_getElem.1 h.up j k (by omega) h2 (by omega)
      omega
  have := hk D.length (Nat.le_refl _)
  rwa [List.take_length] at this
set_option maxHeartbeats 16000000 in
theorem gotTells_walk (c : Int) (A : Option Addr) (n k : Nat) (B : Option Addr) (m l : Nat) (xs ys : List Int) (win : Int) (w : World) (hc : U32 c) (hL : Lst (ic .u32) 1 w w.heap.size A n xs) (hA : okA A n) (hnk : n ≤ k) (hx : ∀ a ∈ xs, U32 a) (hM : Lst (ic .u32) 1 w w.heap.size B m ys) (hB : okA B m) (hml : m ≤ l) (_hy : ∀ a ∈ ys, U32 a) (w1 : (Lit.int .u32 win).wf = true) :
    Calls Try.prog 9 #[gv c A n k B m l, .int .u32 win] w fun e w' => e = .returned (.bool true) ∧ Below w.heap.size w w' := by
  clear w1
  have hl := hL.len
  have hm := hM.len
  have hnm := hL.most
  unfold maxLen at hnm
  rcases Gt.right_or c hc xs ys m hm hx with hR | ⟨hR, g, hg, rfl, rfl, rfl⟩
  · have rq := fun w hL => right_q c A n k B m l xs false (by simp [hR]) w hL
    refine enterW (fun _ => False) _ Try.func9 rfl (by simp only [Try.ntmps9, List.length_cons, List.length_nil, Nat.reduceAdd, Nat.reduceSub]; rfl) ?_
    refine WC.addVw (ic_len .u32) hL ?_
    repeat' (first
    | refine goS ?_
    | ((with_reducible refine WL.isN_bin ?_); first | refine WL.yld rfl binQ ?_)
    | ((with_reducible refine WL.isN_load ?_); first | refine WL.yld rfl loadQ ?_)
    | ((with_reducible refine WL.isN_call ?_); first | refine WL.step rfl (StepTo.callV (v := .bool true) (us := []) rfl rfl rfl rfl rfl (by kernel_rfl) (fun w hw => gshown_q w) ?_) | refine WL.step rfl (StepTo.callV (v := gv c A n k B m l) (us := [gv c A n k B m l]) rfl rfl rfl rfl rfl (by kernel_rfl) (fun w hw => as_q c A n k B m l w) ?_) | refine WL.step rfl (StepTo.callV (v := .bool false) (us := [gv c A n k B m l]) rfl rfl rfl rfl rfl (by kernel_rfl) (fun w hw => rq w (hw.lst 1 (ic_len .u32) (by omega) rfl)) ?_) | refine WL.yld rfl lenQ ?_)
    | ((with_reducible refine WL.isN_box ?_); first | refine WL.step rfl (StepTo.boxA rfl rfl rfl rfl (fun _ => ?_)) | refine WL.step rfl (StepTo.box1 rfl rfl rfl rfl rfl (fun _ => ?_)))
    | ((with_reducible refine WL.isN_alloc ?_); first | refine WL.step rfl (StepTo.allocA rfl rfl rfl rfl (fun _ => ?_)) | refine WL.step rfl (StepTo.alloc1 rfl rfl rfl rfl rfl (fun _ => ?_)))
    | ((with_reducible refine WL.isN_store ?_); first | refine WL.step rfl (StepTo.st1 rfl rfl rfl rfl rfl rfl ?_) | refine WL.step rfl (StepTo.stA rfl rfl rfl rfl rfl rfl rfl ?_) | refine WL.step rfl (StepTo.stR rfl rfl rfl rfl rfl rfl rfl ?_))
    | with_reducible refine WC.block ?_
    | (refine WC.cond rfl (fun hc => ?_) (fun hc => ?_) <;> (try first | (with_reducible replace hc := of_decide_eq_true hc) | (with_reducible replace hc := of_decide_eq_false hc) | (with_reducible replace hc := eqT hc) | (with_reducible replace hc := eqF hc) | (with_reducible replace hc := neT hc) | (with_reducible replace hc := neF hc) | (with_reducible replace hc := noT hc) | (with_reducible replace hc := noF hc)) <;> (try (exfalso; omega))))
    exact WQ.body (Reads.tmp rfl rfl) fun w' hw' => ⟨rfl, hw'.ext.below⟩
  have rq := fun w hL => right_q g.c A n k B m l (Gt.ab g.c g.D) true (by simp [hR]) w hL
  by_cases h60 : 60 < n
  · refine enterW (fun _ => False) _ Try.func9 rfl (by simp only [Try.ntmps9, List.length_cons, List.length_nil, Nat.reduceAdd, Nat.reduceSub]; rfl) ?_
    refine WC.addVw (ic_len .u32) hL ?_
    repeat' (first
    | refine goS ?_
    | ((with_reducible refine WL.isN_bin ?_); first | refine WL.yld rfl binQ ?_)
    | ((with_reducible refine WL.isN_load ?_); first | refine WL.yld rfl loadQ ?_)
    | ((with_reducible refine WL.isN_call ?_); first | refine WL.step rfl (StepTo.callV (v := .bool true) (us := []) rfl rfl rfl rfl rfl (by kernel_rfl) (fun w hw => gshown_q w) ?_) | refine WL.step rfl (StepTo.callV (v := gv g.c A n k B m l) (us := [gv g.c A n k B m l]) rfl rfl rfl rfl rfl (by kernel_rfl) (fun w hw => as_q g.c A n k B m l w) ?_) | refine WL.step rfl (StepTo.callV (v := .bool true) (us := [gv g.c A n k B m l]) rfl rfl rfl rfl rfl (by kernel_rfl) (fun w hw => rq w (hw.lst 1 (ic_len .u32) (by omega) rfl)) ?_) | refine WL.yld rfl lenQ ?_)
    | ((with_reducible refine WL.isN_box ?_); first | refine WL.step rfl (StepTo.boxA rfl rfl rfl rfl (fun _ => ?_)) | refine WL.step rfl (StepTo.box1 rfl rfl rfl rfl rfl (fun _ => ?_)))
    | ((with_reducible refine WL.isN_alloc ?_); first | refine WL.step rfl (StepTo.allocA rfl rfl rfl rfl (fun _ => ?_)) | refine WL.step rfl (StepTo.alloc1 rfl rfl rfl rfl rfl (fun _ => ?_)))
    | ((with_reducible refine WL.isN_store ?_); first | refine WL.step rfl (StepTo.st1 rfl rfl rfl rfl rfl rfl ?_) | refine WL.step rfl (StepTo.stA rfl rfl rfl rfl rfl rfl rfl ?_) | refine WL.step rfl (StepTo.stR rfl rfl rfl rfl rfl rfl rfl ?_))
    | with_reducible refine WC.block ?_
    | (refine WC.cond rfl (fun hc => ?_) (fun hc => ?_) <;> (try first | (with_reducible replace hc := of_decide_eq_true hc) | (with_reducible replace hc := of_decide_eq_false hc) | (with_reducible replace hc := eqT hc) | (with_reducible replace hc := eqF hc) | (with_reducible replace hc := neT hc) | (with_reducible replace hc := neF hc) | (with_reducible replace hc := noT hc) | (with_reducible replace hc := noF hc)) <;> (try (exfalso; omega))))
    exact WQ.body (Reads.tmp rfl rfl) fun w' hw' => ⟨rfl, hw'.ext.below⟩
  rw [Gt.ab_len] at hl
  have hdu := hg.du
  have hdl := Gt.druns_len g.D
  have hga := Gt.gaps_all (D := g.D) (by omega)
  have hgl : (Gt.gaps g.D).length ≤ 60 := by rw [hga, List.length_map]; omega
  have hris := rising_druns hg.D
  have cq := fun Ag kg Ad kd w hG hD => cright_q g.c win Ag (Gt.gaps g.D).length kg Ad g.du.length kd (Gt.druns g.D) g.du hris w (hga ▸ hG) hD (by omega) (by omega)
  have gq := fun w {V : Nat → Prop} hL => gaps_w (V := V) A n k B m l g.c g.D w hL hA hg.D (by omega)
  have rgq := fun w {V : Nat → Prop} hL => rgaps_w (V := V) A n k B m l g.c g.D w hL hg.D (by omega)
  have sq := fun w {V : Nat → Prop} hL hM => sack_w (V := V) A n k B m l g win w hL hM hA hB hg (by omega)
  have mq := fun w {V : Nat → Prop} hL => missing_w (V := V) A n k B m l g.c g.D w hL hg.D hg.c
  have rmq := fun w {V : Nat → Prop} hL => rmissing_w (V := V) A n k B m l g.c g.D w hL hg.D hg.c (by omega)
  have lq := fun w hL => last_q A n k B m l g.c g.D w hL hg.c
  have rlq := fun w hL => rlast_q A n k B m l g.c g.D w hL hg.c
  have hlh := Gt.last_hi hg.D
  have hml' := Gt.miss_len g.D (Gt.last g.D + 1)
  have hcc : (g.c == g.c) = true := beqT rfl
  have hww : (win == win) = true := beqT rfl
  unfold SackR at sq
  unfold GapsR at gq rgq
  unfold MissR at mq rmq
  clear hga hris
  generalize Gt.gaps g.D = gs at *
  generalize Gt.miss g.D (Gt.last g.D + 1) = ms at *
  have gpq := fun A' k' B' l' w hL hM => gaps_q A' gs.length k' B' l' gs w hL hM (by omega)
  have nmq := fun A' k' B' l' w hL hM => nums_q A' ms.length k' B' ms.length l' (Gt.ab g.c ms) (Gt.ab g.c ms) true (by simp) w hL hM (by omega)
  have lup : ((Gt.up g.c (Gt.last g.D) : Int) == Gt.up g.c (Gt.last g.D)) = true := beqT rfl
  refine enterW (fun _ => False) _ Try.func9 rfl (by simp only [Try.ntmps9, List.length_cons, List.length_nil, Nat.reduceAdd, Nat.reduceSub]; rfl) ?_
  refine WC.addVw (ic_len .u32) hM ?_
  refine WC.addVw (ic_len .u32) hL ?_
  repeat' (first
    | refine goS ?_
    | ((with_reducible refine WL.isN_bin ?_); first | refine WL.yld rfl binQ ?_)
    | ((with_reducible refine WL.isN_load ?_); first | refine WL.yld rfl loadQ ?_)
    | ((with_reducible refine WL.isN_call ?_); first | refine WL.step rfl (StepTo.callV (v := .bool true) (us := []) rfl rfl rfl rfl rfl (by kernel_rfl) (fun w hw => gshown_q w) ?_) | refine WL.step rfl (StepTo.callV (v := gv g.c A n k B m l) (us := [gv g.c A n k B m l]) rfl rfl rfl rfl rfl (by kernel_rfl) (fun w hw => as_q g.c A n k B m l w) ?_) | refine WL.step rfl (StepTo.callV (v := .bool true) (us := [gv g.c A n k B m l]) rfl rfl rfl rfl rfl (by kernel_rfl) (fun w hw => rq w (hw.lst 1 (ic_len .u32) (by omega) rfl)) ?_) | refine WL.yld rfl lenQ ?_)
    | ((with_reducible refine WL.isN_box ?_); first | refine WL.step rfl (StepTo.boxA rfl rfl rfl rfl (fun _ => ?_)) | refine WL.step rfl (StepTo.box1 rfl rfl rfl rfl rfl (fun _ => ?_)))
    | ((with_reducible refine WL.isN_alloc ?_); first | refine WL.step rfl (StepTo.allocA rfl rfl rfl rfl (fun _ => ?_)) | refine WL.step rfl (StepTo.alloc1 rfl rfl rfl rfl rfl (fun _ => ?_)))
    | ((with_reducible refine WL.isN_store ?_); first | refine WL.step rfl (StepTo.st1 rfl rfl rfl rfl rfl rfl ?_) | refine WL.step rfl (StepTo.stA rfl rfl rfl rfl rfl rfl rfl ?_) | refine WL.step rfl (StepTo.stR rfl rfl rfl rfl rfl rfl rfl ?_))
    | with_reducible refine WC.block ?_
    | (refine WC.cond rfl (fun hc => ?_) (fun hc => ?_) <;> (try first | (with_reducible replace hc := of_decide_eq_true hc) | (with_reducible replace hc := of_decide_eq_false hc) | (with_reducible replace hc := eqT hc) | (with_reducible replace hc := eqF hc) | (with_reducible replace hc := neT hc) | (with_reducible replace hc := neF hc) | (with_reducible replace hc := noT hc) | (with_reducible replace hc := noF hc)) <;> (try (exfalso; omega))))
  refine WL.step rfl (StepTo.callN [] (us := [gv g.c A n k B m l]) rfl rfl rfl rfl rfl (by kernel_rfl) (fun w hw => rgq w (hw.lst 1 (ic_len .u32) (by omega) rfl)) ?_)
  rintro v N ⟨Ar, _, kr, rfl, okr, rfl, rfl⟩
  repeat' (first
    | refine goS ?_
    | ((with_reducible refine WL.isN_bin ?_); first | refine WL.yld rfl binQ ?_)
    | ((with_reducible refine WL.isN_load ?_); first | refine WL.yld rfl loadQ ?_)
    | ((with_reducible refine WL.isN_call ?_); first | refine WL.yld rfl lenQ ?_)
    | ((with_reducible refine WL.isN_box ?_); first | refine WL.step rfl (StepTo.boxA rfl rfl rfl rfl (fun _ => ?_)) | refine WL.step rfl (StepTo.box1 rfl rfl rfl rfl rfl (fun _ => ?_)))
    | ((with_reducible refine WL.isN_alloc ?_); first | refine WL.step rfl (StepTo.allocA rfl rfl rfl rfl (fun _ => ?_)) | refine WL.step rfl (StepTo.alloc1 rfl rfl rfl rfl rfl (fun _ => ?_)))
    | ((with_reducible refine WL.isN_store ?_); first | refine WL.step rfl (StepTo.st1 rfl rfl rfl rfl rfl rfl ?_) | refine WL.step rfl (StepTo.stA rfl rfl rfl rfl rfl rfl rfl ?_) | refine WL.step rfl (StepTo.stR rfl rfl rfl rfl rfl rfl rfl ?_))
    | with_reducible refine WC.block ?_
    | (refine WC.cond rfl (fun hc => ?_) (fun hc => ?_) <;> (try first | (with_reducible replace hc := of_decide_eq_true hc) | (with_reducible replace hc := of_decide_eq_false hc) | (with_reducible replace hc := eqT hc) | (with_reducible replace hc := eqF hc) | (with_reducible replace hc := neT hc) | (with_reducible replace hc := neF hc) | (with_reducible replace hc := noT hc) | (with_reducible replace hc := noF hc)) <;> (try (exfalso; omega))))
  refine WL.step rfl (StepTo.callN [] (us := [gv g.c A n k B m l, .int .u32 win]) rfl rfl rfl rfl rfl (by kernel_rfl) (fun w hw => sq w (hw.lst 2 (ic_len .u32) (by omega) rfl) (hw.lst 3 (ic_len .u32) (by omega) rfl)) ?_)
  rintro v N ⟨Ag, _, kg, Ad, _, kd, rfl, okg, okd, rfl, rfl, rfl⟩
  repeat' (first
    | refine goS ?_
    | ((with_reducible refine WL.isN_bin ?_); first | refine WL.yld rfl (Yld.as (Yld.eqS (s := []) (t := []) rfl rfl rfl) (show Value.bool (([] : List UInt8) == []) = .bool true from rfl)) ?_ | refine WL.yld rfl binQ ?_)
    | ((with_reducible refine WL.isN_load ?_); first | refine WL.yld rfl loadQ ?_)
    | ((with_reducible refine WL.isN_call ?_); first | refine WL.step rfl (StepTo.callV (v := .bool true) (us := [.slice Ag gs.length kg, .slice Ar gs.length kr]) rfl rfl rfl rfl rfl (by kernel_rfl) (fun w hw => gpq Ag kg Ar kr w (hw.lst 2 (pc_len .u16) (by omega) rfl) (hw.lst 4 (pc_len .u16) (by omega) rfl)) ?_) | refine WL.step rfl (StepTo.callV (v := .bool true) (us := [.slice Ad g.du.length kd, .slice B m l]) rfl rfl rfl rfl rfl (by kernel_rfl) (fun w hw => nums_q Ad g.du.length kd B m l g.du g.du true (by simp) w (hw.lst 3 (ic_len .u32) (by omega) rfl) (hw.lst 7 (ic_len .u32) (by omega) rfl) (by omega)) ?_) | refine WL.yld rfl lenQ ?_)
    | ((with_reducible refine WL.isN_box ?_); first | refine WL.step rfl (StepTo.boxA rfl rfl rfl rfl (fun _ => ?_)) | refine WL.step rfl (StepTo.box1 rfl rfl rfl rfl rfl (fun _ => ?_)))
    | ((with_reducible refine WL.isN_alloc ?_); first | refine WL.step rfl (StepTo.allocA rfl rfl rfl rfl (fun _ => ?_)) | refine WL.step rfl (StepTo.alloc1 rfl rfl rfl rfl rfl (fun _ => ?_)))
    | ((with_reducible refine WL.isN_store ?_); first | refine WL.step rfl (StepTo.st1 rfl rfl rfl rfl rfl rfl ?_) | refine WL.step rfl (StepTo.stA rfl rfl rfl rfl rfl rfl rfl ?_) | refine WL.step rfl (StepTo.stR rfl rfl rfl rfl rfl rfl rfl ?_))
    | with_reducible refine WC.block ?_
    | (refine WC.cond rfl (fun hc => ?_) (fun hc => ?_) <;> (try first | (with_reducible replace hc := of_decide_eq_true hc) | (with_reducible replace hc := of_decide_eq_false hc) | (with_reducible replace hc := eqT hc) | (with_reducible replace hc := eqF hc) | (with_reducible replace hc := neT hc) | (with_reducible replace hc := neF hc) | (with_reducible replace hc := noT hc) | (with_reducible replace hc := noF hc)) <;> (try (exfalso; omega))))
  rename_i b2 b8 b9
  refine WC.cut (fun τ H => τ = [(4, .bool true)] ∧ H = []) ?_ ?_
  refine WC.anyI [0, 1, 5] (by kernel_rfl) ?_
  refine WA.take (idx := [0, 1, 5]) 0 rfl (by kernel_rfl) (by kernel_rfl) (by kernel_rfl) rfl ⟨by decide, rfl⟩ (Yld.pure rfl nrmQ) ?_
  refine WA.take (idx := [0, 1, 5]) 1 rfl (by kernel_rfl) (by kernel_rfl) (by kernel_rfl) rfl ⟨by decide, rfl⟩ (Yld.pure rfl nrmQ) ?_
  first | refine WA.skip (idx := [0, 1, 5]) 2 rfl (by kernel_rfl) (by kernel_rfl) (by kernel_rfl) rfl ⟨by decide, rfl⟩ rfl rfl rfl gdQ ?_ | refine WA.takeG (idx := [0, 1, 5]) 2 rfl (by kernel_rfl) (by kernel_rfl) (by kernel_rfl) rfl ⟨by decide, rfl⟩ rfl rfl rfl gdQ (by first | exact Yld.load rfl rfl rfl rfl cellQ | exact Yld.loadAgg rfl rfl rfl rfl rfl aggQ) ?_
  refine WA.oneW 3 (by kernel_rfl) rfl (.inr ⟨_, _, _, _, _, rfl, rfl, rfl, rfl, gdQ⟩) ?_
  refine StepTo.callV (v := .bool true) (us := [.agg (sackC g.c win Ag gs.length kg Ad g.du.length kd).toArray]) rfl rfl rfl rfl rfl (by kernel_rfl) (fun w hw => cq Ag kg Ad kd w (hw.lst 2 (pc_len .u16) (by omega) rfl) (hw.lst 3 (ic_len .u32) (by omega) rfl)) ⟨⟨[0, 1, 5], by decide, rfl⟩, ?_⟩
  refine WA.take (idx := [0, 1, 5]) 4 rfl (by kernel_rfl) (by kernel_rfl) (by kernel_rfl) rfl ⟨by decide, rfl⟩ (by first | exact Yld.pickT rfl rfl rfl | exact Yld.pickF rfl rfl rfl | exact Yld.pickTh rfl rfl gdQ rfl | exact Yld.pickFh rfl rfl gdQ rfl | exact Yld.pickB rfl rfl rfl rfl) ?_
  refine WA.take (idx := [0, 1, 5]) 5 rfl (by kernel_rfl) (by kernel_rfl) (by kernel_rfl) rfl ⟨by decide, rfl⟩ (Yld.pure rfl nrmQ) ?_
  first | refine WA.skip (idx := [0, 1, 5]) 6 rfl (by kernel_rfl) (by kernel_rfl) (by kernel_rfl) rfl ⟨by decide, rfl⟩ rfl rfl rfl gdQ ?_ | refine WA.takeG (idx := [0, 1, 5]) 6 rfl (by kernel_rfl) (by kernel_rfl) (by kernel_rfl) rfl ⟨by decide, rfl⟩ rfl rfl rfl gdQ (Yld.fieldAddr rfl rfl rfl rfl rfl rfl rfl) ?_
  first | refine WA.skip (idx := [0, 1, 5]) 7 rfl (by kernel_rfl) (by kernel_rfl) (by kernel_rfl) rfl ⟨by decide, rfl⟩ rfl rfl rfl gdQ ?_ | refine WA.takeG (idx := [0, 1, 5]) 7 rfl (by kernel_rfl) (by kernel_rfl) (by kernel_rfl) rfl ⟨by decide, rfl⟩ rfl rfl rfl gdQ (by first | exact Yld.load rfl rfl rfl rfl cellQ | exact Yld.loadAgg rfl rfl rfl rfl rfl aggQ) ?_
  first | refine WA.skip (idx := [0, 1, 5]) 8 rfl (by kernel_rfl) (by kernel_rfl) (by kernel_rfl) rfl ⟨by decide, rfl⟩ rfl rfl rfl gdQ ?_ | refine WA.takeG (idx := [0, 1, 5]) 8 rfl (by kernel_rfl) (by kernel_rfl) (by kernel_rfl) rfl ⟨by decide, rfl⟩ rfl rfl rfl gdQ (Yld.fieldAddr rfl rfl rfl rfl rfl rfl rfl) ?_
  first | refine WA.skip (idx := [0, 1, 5]) 9 rfl (by kernel_rfl) (by kernel_rfl) (by kernel_rfl) rfl ⟨by decide, rfl⟩ rfl rfl rfl gdQ ?_ | refine WA.takeG (idx := [0, 1, 5]) 9 rfl (by kernel_rfl) (by kernel_rfl) (by kernel_rfl) rfl ⟨by decide, rfl⟩ rfl rfl rfl gdQ (by first | exact Yld.load rfl rfl rfl rfl cellQ | exact Yld.loadAgg rfl rfl rfl rfl rfl aggQ) ?_
  first | refine WA.skip (idx := [0, 1, 5]) 10 rfl (by kernel_rfl) (by kernel_rfl) (by kernel_rfl) rfl ⟨by decide, rfl⟩ rfl rfl rfl gdQ ?_ | refine WA.takeG (idx := [0, 1, 5]) 10 rfl (by kernel_rfl) (by kernel_rfl) (by kernel_rfl) rfl ⟨by decide, rfl⟩ rfl rfl rfl gdQ (by first | exact Yld.pure rfl nrmQ | exact Yld.rem rfl rfl rfl rfl (by omega) (by omega) | exact Yld.quo rfl rfl rfl rfl (by omega) (by omega) nrmQ | exact Yld.eqlB rfl rfl rfl rfl | exact Yld.neqB rfl rfl rfl rfl | exact Yld.eqlA 4 rfl rfl rfl (by kernel_rfl) (by kernel_rfl) rfl rfl | exact Yld.neqA 4 rfl rfl rfl (by kernel_rfl) (by kernel_rfl) rfl rfl | exact Yld.quoT rfl rfl rfl rfl (by omega) nrmQ) ?_
  refine WA.take (idx := [0, 1, 5]) 11 rfl (by kernel_rfl) (by kernel_rfl) (by kernel_rfl) rfl ⟨by decide, rfl⟩ (by first | exact Yld.pickT rfl rfl rfl | exact Yld.pickF rfl rfl rfl | exact Yld.pickTh rfl rfl gdQ rfl | exact Yld.pickFh rfl rfl gdQ rfl | exact Yld.pickB rfl rfl rfl rfl) ?_
  refine WA.take (idx := [0, 1, 5]) 12 rfl (by kernel_rfl) (by kernel_rfl) (by kernel_rfl) rfl ⟨by decide, rfl⟩ (Yld.pure rfl nrmQ) ?_
  first | refine WA.skip (idx := [0, 1, 5]) 13 rfl (by kernel_rfl) (by kernel_rfl) (by kernel_rfl) rfl ⟨by decide, rfl⟩ rfl rfl rfl gdQ ?_ | refine WA.takeG (idx := [0, 1, 5]) 13 rfl (by kernel_rfl) (by kernel_rfl) (by kernel_rfl) rfl ⟨by decide, rfl⟩ rfl rfl rfl gdQ (Yld.fieldAddr rfl rfl rfl rfl rfl rfl rfl) ?_
  first | refine WA.skip (idx := [0, 1, 5]) 14 rfl (by kernel_rfl) (by kernel_rfl) (by kernel_rfl) rfl ⟨by decide, rfl⟩ rfl rfl rfl gdQ ?_ | refine WA.takeG (idx := [0, 1, 5]) 14 rfl (by kernel_rfl) (by kernel_rfl) (by kernel_rfl) rfl ⟨by decide, rfl⟩ rfl rfl rfl gdQ (by first | exact Yld.load rfl rfl rfl rfl cellQ | exact Yld.loadAgg rfl rfl rfl rfl rfl aggQ) ?_
  first | refine WA.skip (idx := [0, 1, 5]) 15 rfl (by kernel_rfl) (by kernel_rfl) (by kernel_rfl) rfl ⟨by decide, rfl⟩ rfl rfl rfl gdQ ?_ | refine WA.takeG (idx := [0, 1, 5]) 15 rfl (by kernel_rfl) (by kernel_rfl) (by kernel_rfl) rfl ⟨by decide, rfl⟩ rfl rfl rfl gdQ (Yld.fieldAddr rfl rfl rfl rfl rfl rfl rfl) ?_
  first | refine WA.skip (idx := [0, 1, 5]) 16 rfl (by kernel_rfl) (by kernel_rfl) (by kernel_rfl) rfl ⟨by decide, rfl⟩ rfl rfl rfl gdQ ?_ | refine WA.takeG (idx := [0, 1, 5]) 16 rfl (by kernel_rfl) (by kernel_rfl) (by kernel_rfl) rfl ⟨by decide, rfl⟩ rfl rfl rfl gdQ (by first | exact Yld.load rfl rfl rfl rfl cellQ | exact Yld.loadAgg rfl rfl rfl rfl rfl aggQ) ?_
  refine WA.oneW 17 (by kernel_rfl) rfl (.inr ⟨_, _, _, _, _, rfl, rfl, rfl, rfl, gdQ⟩) ?_
  refine StepTo.callV (v := .bool true) (us := [.slice A n k, .slice A n k]) rfl rfl rfl rfl rfl (by kernel_rfl) (fun w hw => nums_q A n k A n k (Gt.ab g.c g.D) (Gt.ab g.c g.D) true (by simp) w (hw.lst 6 (ic_len .u32) (by omega) rfl) (hw.lst 6 (ic_len .u32) (by omega) rfl) (by omega)) ⟨⟨[0, 1, 5], by decide, rfl⟩, ?_⟩
  refine WA.take (idx := [0, 1, 5]) 18 rfl (by kernel_rfl) (by kernel_rfl) (by kernel_rfl) rfl ⟨by decide, rfl⟩ (by first | exact Yld.pickT rfl rfl rfl | exact Yld.pickF rfl rfl rfl | exact Yld.pickTh rfl rfl gdQ rfl | exact Yld.pickFh rfl rfl gdQ rfl | exact Yld.pickB rfl rfl rfl rfl) ?_
  refine WA.take (idx := [0, 1, 5]) 19 rfl (by kernel_rfl) (by kernel_rfl) (by kernel_rfl) rfl ⟨by decide, rfl⟩ (Yld.pure rfl nrmQ) ?_
  first | refine WA.skip (idx := [0, 1, 5]) 20 rfl (by kernel_rfl) (by kernel_rfl) (by kernel_rfl) rfl ⟨by decide, rfl⟩ rfl rfl rfl gdQ ?_ | refine WA.takeG (idx := [0, 1, 5]) 20 rfl (by kernel_rfl) (by kernel_rfl) (by kernel_rfl) rfl ⟨by decide, rfl⟩ rfl rfl rfl gdQ (Yld.fieldAddr rfl rfl rfl rfl rfl rfl rfl) ?_
  first | refine WA.skip (idx := [0, 1, 5]) 21 rfl (by kernel_rfl) (by kernel_rfl) (by kernel_rfl) rfl ⟨by decide, rfl⟩ rfl rfl rfl gdQ ?_ | refine WA.takeG (idx := [0, 1, 5]) 21 rfl (by kernel_rfl) (by kernel_rfl) (by kernel_rfl) rfl ⟨by decide, rfl⟩ rfl rfl rfl gdQ (by first | exact Yld.load rfl rfl rfl rfl cellQ | exact Yld.loadAgg rfl rfl rfl rfl rfl aggQ) ?_
  first | refine WA.skip (idx := [0, 1, 5]) 22 rfl (by kernel_rfl) (by kernel_rfl) (by kernel_rfl) rfl ⟨by decide, rfl⟩ rfl rfl rfl gdQ ?_ | refine WA.takeG (idx := [0, 1, 5]) 22 rfl (by kernel_rfl) (by kernel_rfl) (by kernel_rfl) rfl ⟨by decide, rfl⟩ rfl rfl rfl gdQ (by first | exact Yld.lenSlice rfl rfl rfl | exact Yld.lenStr rfl rfl rfl) ?_
  first | refine WA.skip (idx := [0, 1, 5]) 23 rfl (by kernel_rfl) (by kernel_rfl) (by kernel_rfl) rfl ⟨by decide, rfl⟩ rfl rfl rfl gdQ ?_ | refine WA.takeG (idx := [0, 1, 5]) 23 rfl (by kernel_rfl) (by kernel_rfl) (by kernel_rfl) rfl ⟨by decide, rfl⟩ rfl rfl rfl gdQ (by first | exact Yld.pure rfl nrmQ | exact Yld.rem rfl rfl rfl rfl (by omega) (by omega) | exact Yld.quo rfl rfl rfl rfl (by omega) (by omega) nrmQ | exact Yld.eqlB rfl rfl rfl rfl | exact Yld.neqB rfl rfl rfl rfl | exact Yld.eqlA 4 rfl rfl rfl (by kernel_rfl) (by kernel_rfl) rfl rfl | exact Yld.neqA 4 rfl rfl rfl (by kernel_rfl) (by kernel_rfl) rfl rfl | exact Yld.quoT rfl rfl rfl rfl (by omega) nrmQ) ?_
  refine WA.take (idx := [0, 1, 5]) 24 rfl (by kernel_rfl) (by kernel_rfl) (by kernel_rfl) rfl ⟨by decide, rfl⟩ (by first | exact Yld.pickT rfl rfl rfl | exact Yld.pickF rfl rfl rfl | exact Yld.pickTh rfl rfl gdQ rfl | exact Yld.pickFh rfl rfl gdQ rfl | exact Yld.pickB rfl rfl rfl rfl) ?_
  refine WA.take (idx := [0, 1, 5]) 25 rfl (by kernel_rfl) (by kernel_rfl) (by kernel_rfl) rfl ⟨by decide, rfl⟩ (Yld.pure rfl nrmQ) ?_
  first | refine WA.skip (idx := [0, 1, 5]) 26 rfl (by kernel_rfl) (by kernel_rfl) (by kernel_rfl) rfl ⟨by decide, rfl⟩ rfl rfl rfl gdQ ?_ | refine WA.takeG (idx := [0, 1, 5]) 26 rfl (by kernel_rfl) (by kernel_rfl) (by kernel_rfl) rfl ⟨by decide, rfl⟩ rfl rfl rfl gdQ (by first | exact Yld.load rfl rfl rfl rfl cellQ | exact Yld.loadAgg rfl rfl rfl rfl rfl aggQ) ?_
  first | refine WA.skip (idx := [0, 1, 5]) 28 rfl (by kernel_rfl) (by kernel_rfl) (by kernel_rfl) rfl ⟨by decide, rfl⟩ rfl rfl rfl gdQ ?_ | refine WA.takeG (idx := [0, 1, 5]) 28 rfl (by kernel_rfl) (by kernel_rfl) (by kernel_rfl) rfl ⟨by decide, rfl⟩ rfl rfl rfl gdQ (Yld.pure rfl nrmQ) ?_
  refine WA.oneW 27 (by kernel_rfl) rfl (.inr ⟨_, _, _, _, _, rfl, rfl, rfl, rfl, gdQ⟩) ?_
  refine StepTo.callN [] (us := [gv g.c A n k B m l]) rfl rfl rfl rfl rfl (by kernel_rfl) (fun w hw => gq w (hw.lst 6 (ic_len .u32) (by omega) rfl)) ?_
  rintro v N ⟨A3, _, k3, rfl, ok3, rfl, rfl⟩
  refine ⟨⟨[1, 2, 6], by decide, rfl⟩, ?_⟩
  refine WA.oneW 29 (by kernel_rfl) rfl (.inr ⟨_, _, _, _, _, rfl, rfl, rfl, rfl, gdQ⟩) ?_
  refine StepTo.callV (v := .bool true) (us := [.slice A3 gs.length k3, .slice Ar gs.length kr]) rfl rfl rfl rfl rfl (by kernel_rfl) (fun w hw => gpq A3 k3 Ar kr w (hw.lst 0 (pc_len .u16) (by omega) rfl) (hw.lst 5 (pc_len .u16) (by omega) rfl)) ⟨⟨[1, 2, 6], by decide, rfl⟩, ?_⟩
  refine WA.take (idx := [1, 2, 6]) 30 rfl (by kernel_rfl) (by kernel_rfl) (by kernel_rfl) rfl ⟨by decide, rfl⟩ (by first | exact Yld.pickT rfl rfl rfl | exact Yld.pickF rfl rfl rfl | exact Yld.pickTh rfl rfl gdQ rfl | exact Yld.pickFh rfl rfl gdQ rfl | exact Yld.pickB rfl rfl rfl rfl) ?_
  refine WA.take (idx := [1, 2, 6]) 31 rfl (by kernel_rfl) (by kernel_rfl) (by kernel_rfl) rfl ⟨by decide, rfl⟩ (Yld.pure rfl nrmQ) ?_
  first | refine WA.skip (idx := [1, 2, 6]) 32 rfl (by kernel_rfl) (by kernel_rfl) (by kernel_rfl) rfl ⟨by decide, rfl⟩ rfl rfl rfl gdQ ?_ | refine WA.takeG (idx := [1, 2, 6]) 32 rfl (by kernel_rfl) (by kernel_rfl) (by kernel_rfl) rfl ⟨by decide, rfl⟩ rfl rfl rfl gdQ (by first | exact Yld.load rfl rfl rfl rfl cellQ | exact Yld.loadAgg rfl rfl rfl rfl rfl aggQ) ?_
  first | refine WA.skip (idx := [1, 2, 6]) 34 rfl (by kernel_rfl) (by kernel_rfl) (by kernel_rfl) rfl ⟨by decide, rfl⟩ rfl rfl rfl gdQ ?_ | refine WA.takeG (idx := [1, 2, 6]) 34 rfl (by kernel_rfl) (by kernel_rfl) (by kernel_rfl) rfl ⟨by decide, rfl⟩ rfl rfl rfl gdQ (by first | exact Yld.load rfl rfl rfl rfl cellQ | exact Yld.loadAgg rfl rfl rfl rfl rfl aggQ) ?_
  refine WA.oneW 33 (by kernel_rfl) rfl (.inr ⟨_, _, _, _, _, rfl, rfl, rfl, rfl, gdQ⟩) ?_
  refine StepTo.callV (v := .int .u32 (Gt.up g.c (Gt.last g.D))) (us := [gv g.c A n k B m l]) rfl rfl rfl rfl rfl (by kernel_rfl) (fun w hw => lq w (hw.lst 7 (ic_len .u32) (by omega) rfl)) ⟨⟨[1, 2, 6], by decide, rfl⟩, ?_⟩
  refine WA.oneW 35 (by kernel_rfl) rfl (.inr ⟨_, _, _, _, _, rfl, rfl, rfl, rfl, gdQ⟩) ?_
  refine StepTo.callV (v := gv g.c A n k B m l) (us := [gv g.c A n k B m l]) rfl rfl rfl rfl rfl (by kernel_rfl) (fun w hw => as_q g.c A n k B m l w) ⟨⟨[1, 2, 6], by decide, rfl⟩, ?_⟩
  refine WA.oneW 36 (by kernel_rfl) rfl (.inr ⟨_, _, _, _, _, rfl, rfl, rfl, rfl, gdQ⟩) ?_
  refine StepTo.callV (v := .int .u32 (Gt.up g.c (Gt.last g.D))) (us := [gv g.c A n k B m l]) rfl rfl rfl rfl rfl (by kernel_rfl) (fun w hw => rlq w (hw.lst 7 (ic_len .u32) (by omega) rfl)) ⟨⟨[1, 2, 6], by decide, rfl⟩, ?_⟩
  first | refine WA.skip (idx := [1, 2, 6]) 37 rfl (by kernel_rfl) (by kernel_rfl) (by kernel_rfl) rfl ⟨by decide, rfl⟩ rfl rfl rfl gdQ ?_ | refine WA.takeG (idx := [1, 2, 6]) 37 rfl (by kernel_rfl) (by kernel_rfl) (by kernel_rfl) rfl ⟨by decide, rfl⟩ rfl rfl rfl gdQ (by first | exact Yld.pure rfl nrmQ | exact Yld.rem rfl rfl rfl rfl (by omega) (by omega) | exact Yld.quo rfl rfl rfl rfl (by omega) (by omega) nrmQ | exact Yld.eqlB rfl rfl rfl rfl | exact Yld.neqB rfl rfl rfl rfl | exact Yld.eqlA 4 rfl rfl rfl (by kernel_rfl) (by kernel_rfl) rfl rfl | exact Yld.neqA 4 rfl rfl rfl (by kernel_rfl) (by kernel_rfl) rfl rfl | exact Yld.quoT rfl rfl rfl rfl (by omega) nrmQ) ?_
  refine WA.take (idx := [1, 2, 6]) 38 rfl (by kernel_rfl) (by kernel_rfl) (by kernel_rfl) rfl ⟨by decide, rfl⟩ (by first | exact Yld.pickT rfl rfl rfl | exact Yld.pickF rfl rfl rfl | exact Yld.pickTh rfl rfl gdQ rfl | exact Yld.pickFh rfl rfl gdQ rfl | exact Yld.pickB rfl rfl rfl rfl) ?_
  refine WA.take (idx := [1, 2, 6]) 39 rfl (by kernel_rfl) (by kernel_rfl) (by kernel_rfl) rfl ⟨by decide, rfl⟩ (Yld.pure rfl nrmQ) ?_
  first | refine WA.skip (idx := [1, 2, 6]) 40 rfl (by kernel_rfl) (by kernel_rfl) (by kernel_rfl) rfl ⟨by decide, rfl⟩ rfl rfl rfl gdQ ?_ | refine WA.takeG (idx := [1, 2, 6]) 40 rfl (by kernel_rfl) (by kernel_rfl) (by kernel_rfl) rfl ⟨by decide, rfl⟩ rfl rfl rfl gdQ (by first | exact Yld.load rfl rfl rfl rfl cellQ | exact Yld.loadAgg rfl rfl rfl rfl rfl aggQ) ?_
  first | refine WA.skip (idx := [1, 2, 6]) 42 rfl (by kernel_rfl) (by kernel_rfl) (by kernel_rfl) rfl ⟨by decide, rfl⟩ rfl rfl rfl gdQ ?_ | refine WA.takeG (idx := [1, 2, 6]) 42 rfl (by kernel_rfl) (by kernel_rfl) (by kernel_rfl) rfl ⟨by decide, rfl⟩ rfl rfl rfl gdQ (by first | exact Yld.load rfl rfl rfl rfl cellQ | exact Yld.loadAgg rfl rfl rfl rfl rfl aggQ) ?_
  refine WA.oneW 41 (by kernel_rfl) rfl (.inr ⟨_, _, _, _, _, rfl, rfl, rfl, rfl, gdQ⟩) ?_
  refine StepTo.callN [] (us := [gv g.c A n k B m l]) rfl rfl rfl rfl rfl (by kernel_rfl) (fun w hw => mq w (hw.lst 7 (ic_len .u32) (by omega) rfl)) ?_
  rintro v N ⟨A4, _, k4, rfl, ok4, rfl, rfl⟩
  refine ⟨⟨[2, 3, 7], by decide, rfl⟩, ?_⟩
  refine WA.oneW 43 (by kernel_rfl) rfl (.inr ⟨_, _, _, _, _, rfl, rfl, rfl, rfl, gdQ⟩) ?_
  refine StepTo.callV (v := gv g.c A n k B m l) (us := [gv g.c A n k B m l]) rfl rfl rfl rfl rfl (by kernel_rfl) (fun w hw => as_q g.c A n k B m l w) ⟨⟨[2, 3, 7], by decide, rfl⟩, ?_⟩
  refine WA.oneW 44 (by kernel_rfl) rfl (.inr ⟨_, _, _, _, _, rfl, rfl, rfl, rfl, gdQ⟩) ?_
  refine StepTo.callN [] (us := [gv g.c A n k B m l]) rfl rfl rfl rfl rfl (by kernel_rfl) (fun w hw => rmq w (hw.lst 8 (ic_len .u32) (by omega) rfl)) ?_
  rintro v N ⟨A5, _, k5, rfl, ok5, rfl, rfl⟩
  refine ⟨⟨[3, 4, 8], by decide, rfl⟩, ?_⟩
  refine WA.oneW 45 (by kernel_rfl) rfl (.inr ⟨_, _, _, _, _, rfl, rfl, rfl, rfl, gdQ⟩) ?_
  refine StepTo.callV (v := .bool true) (us := [.slice A4 ms.length k4, .slice A5 ms.length k5]) rfl rfl rfl rfl rfl (by kernel_rfl) (fun w hw => nmq A4 k4 A5 k5 w (hw.lst 1 (ic_len .u32) (by omega) rfl) (hw.lst 0 (ic_len .u32) (by omega) rfl)) ⟨⟨[3, 4, 8], by decide, rfl⟩, ?_⟩
  refine WA.take (idx := [3, 4, 8]) 46 rfl (by kernel_rfl) (by kernel_rfl) (by kernel_rfl) rfl ⟨by decide, rfl⟩ (by first | exact Yld.pickT rfl rfl rfl | exact Yld.pickF rfl rfl rfl | exact Yld.pickTh rfl rfl gdQ rfl | exact Yld.pickFh rfl rfl gdQ rfl | exact Yld.pickB rfl rfl rfl rfl) ?_
  refine WA.take (idx := [3, 4, 8]) 47 rfl (by kernel_rfl) (by kernel_rfl) (by kernel_rfl) rfl ⟨by decide, rfl⟩ (Yld.pure rfl nrmQ) ?_
  refine WA.done (by kernel_rfl) ?_
  exact WQ.thenN (WQ.met _ _ [] (by repeat (first | exact Sub.nil | refine Sub.cons rfl ?_ | refine Sub.consE rfl (int_eq (by omega)) ?_)) ⟨by decide, rfl⟩ ⟨rfl, rfl⟩)
  rintro τ H ⟨rfl, rfl⟩
  repeat' (first
    | refine goS ?_
    | ((with_reducible refine WL.isN_bin ?_); first | refine WL.yld rfl binQ ?_)
    | ((with_reducible refine WL.isN_load ?_); first | refine WL.yld rfl loadQ ?_)
    | ((with_reducible refine WL.isN_call ?_); first | refine WL.yld rfl lenQ ?_)
    | ((with_reducible refine WL.isN_box ?_); first | refine WL.step rfl (StepTo.boxA rfl rfl rfl rfl (fun _ => ?_)) | refine WL.step rfl (StepTo.box1 rfl rfl rfl rfl rfl (fun _ => ?_)))
    | ((with_reducible refine WL.isN_alloc ?_); first | refine WL.step rfl (StepTo.allocA rfl rfl rfl rfl (fun _ => ?_)) | refine WL.step rfl (StepTo.alloc1 rfl rfl rfl rfl rfl (fun _ => ?_)))
    | ((with_reducible refine WL.isN_store ?_); first | refine WL.step rfl (StepTo.st1 rfl rfl rfl rfl rfl rfl ?_) | refine WL.step rfl (StepTo.stA rfl rfl rfl rfl rfl rfl rfl ?_) | refine WL.step rfl (StepTo.stR rfl rfl rfl rfl rfl rfl rfl ?_))
    | with_reducible refine WC.block ?_
    | (refine WC.cond rfl (fun hc => ?_) (fun hc => ?_) <;> (try first | (with_reducible replace hc := of_decide_eq_true hc) | (with_reducible replace hc := of_decide_eq_false hc) | (with_reducible replace hc := eqT hc) | (with_reducible replace hc := eqF hc) | (with_reducible replace hc := neT hc) | (with_reducible replace hc := neF hc) | (with_reducible replace hc := noT hc) | (with_reducible replace hc := noF hc)) <;> (try (exfalso; omega))))
  exact WQ.body (Reads.tmp rfl rfl) fun w' hw' => ⟨rfl, hw'.ext.below⟩
end Go.Proofs.Ythbhjnmkbmmcnaa
