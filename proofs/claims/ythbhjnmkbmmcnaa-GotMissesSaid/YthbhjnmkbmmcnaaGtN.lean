/- The law GotMisses. -/
import Derived.Test.YthbhjnmkbmmcnaaGtM
namespace Go.Proofs.Ythbhjnmkbmmcnaa
open Go.RowKit Go.IntWalk
set_option linter.unusedVariables false
set_option linter.unusedSimpArgs false
set_option linter.unusedSectionVars false
set_option maxRecDepth 100000

set_option maxHeartbeats 8000000 in
theorem gotMisses_walk (c : Int) (A : Option Addr) (n k : Nat) (B : Option Addr) (m l : Nat) (xs ys : List Int) (w : World) (hc : U32 c) (hL : Lst (ic .u32) 1 w w.heap.size A n xs) (hA : okA A n) (hnk : n ≤ k) (hx : ∀ a ∈ xs, U32 a) (hM : Lst (ic .u32) 1 w w.heap.size B m ys) (hB : okA B m) (hml : m ≤ l) (_hy : ∀ a ∈ ys, U32 a) :
    Calls Try.prog 7 #[gv c A n k B m l] w fun e w' => e = .returned (.bool true) ∧ Below w.heap.size w w' := by
  have hl := hL.len
  have hm := hM.len
  have hnm := hL.most
  unfold maxLen at hnm
  rcases Gt.right_or c hc xs ys m hm hx with hR | ⟨hR, g, hg, rfl, rfl, rfl⟩
  · have rq := fun w hL => right_q c A n k B m l xs false (by simp [hR]) w hL
    refine enterW (fun _ => False) _ Try.func7 rfl (by simp only [Try.ntmps7, List.length_cons, List.length_nil, Nat.reduceAdd, Nat.reduceSub]; rfl) ?_
    refine WC.addVw (ic_len .u32) hL ?_
    repeat' (first
    | refine goS ?_
    | ((with_reducible refine WL.isN_bin ?_); first | refine WL.yld rfl binQ ?_)
    | ((with_reducible refine WL.isN_load ?_); first | refine WL.yld rfl loadQ ?_)
    | ((with_reducible refine WL.isN_iaddr ?_); first | refine WL.yld rfl iaddrQ ?_)
    | ((with_reducible refine WL.isN_conv ?_); first | refine WL.yld rfl convQ ?_)
    | ((with_reducible refine WL.isN_call ?_); first | refine WL.step rfl (StepTo.callV (v := .bool true) (us := []) rfl rfl rfl rfl rfl (by kernel_rfl) (fun w hw => gshown_q w) ?_) | refine WL.step rfl (StepTo.callV (v := gv c A n k B m l) (us := [gv c A n k B m l]) rfl rfl rfl rfl rfl (by kernel_rfl) (fun w hw => as_q c A n k B m l w) ?_) | refine WL.step rfl (StepTo.callV (v := .bool false) (us := [gv c A n k B m l]) rfl rfl rfl rfl rfl (by kernel_rfl) (fun w hw => rq w (hw.lst 1 (ic_len .u32) (by omega) rfl)) ?_) | refine WL.yld rfl lenQ ?_)
    | ((with_reducible refine WL.isN_box ?_); first | refine WL.step rfl (StepTo.boxA rfl rfl rfl rfl (fun _ => ?_)) | refine WL.step rfl (StepTo.box1 rfl rfl rfl rfl rfl (fun _ => ?_)))
    | with_reducible refine WC.block ?_
    | (refine WC.cond rfl (fun hc => ?_) (fun hc => ?_) <;> (try first | (with_reducible replace hc := of_decide_eq_true hc) | (with_reducible replace hc := of_decide_eq_false hc) | (with_reducible replace hc := eqT hc) | (with_reducible replace hc := eqF hc) | (with_reducible replace hc := neT hc) | (with_reducible replace hc := neF hc) | (with_reducible replace hc := noT hc) | (with_reducible replace hc := noF hc)) <;> (try (exfalso; omega))))
    exact WQ.body (Reads.tmp rfl rfl) fun w' hw' => ⟨rfl, hw'.ext.below⟩
  have rq := fun w hL => right_q g.c A n k B m l (Gt.ab g.c g.D) true (by simp [hR]) w hL
  by_cases h60 : 60 < n
  · refine enterW (fun _ => False) _ Try.func7 rfl (by simp only [Try.ntmps7, List.length_cons, List.length_nil, Nat.reduceAdd, Nat.reduceSub]; rfl) ?_
    refine WC.addVw (ic_len .u32) hL ?_
    repeat' (first
    | refine goS ?_
    | ((with_reducible refine WL.isN_bin ?_); first | refine WL.yld rfl binQ ?_)
    | ((with_reducible refine WL.isN_load ?_); first | refine WL.yld rfl loadQ ?_)
    | ((with_reducible refine WL.isN_iaddr ?_); first | refine WL.yld rfl iaddrQ ?_)
    | ((with_reducible refine WL.isN_conv ?_); first | refine WL.yld rfl convQ ?_)
    | ((with_reducible refine WL.isN_call ?_); first | refine WL.step rfl (StepTo.callV (v := .bool true) (us := []) rfl rfl rfl rfl rfl (by kernel_rfl) (fun w hw => gshown_q w) ?_) | refine WL.step rfl (StepTo.callV (v := gv g.c A n k B m l) (us := [gv g.c A n k B m l]) rfl rfl rfl rfl rfl (by kernel_rfl) (fun w hw => as_q g.c A n k B m l w) ?_) | refine WL.step rfl (StepTo.callV (v := .bool true) (us := [gv g.c A n k B m l]) rfl rfl rfl rfl rfl (by kernel_rfl) (fun w hw => rq w (hw.lst 1 (ic_len .u32) (by omega) rfl)) ?_) | refine WL.yld rfl lenQ ?_)
    | ((with_reducible refine WL.isN_box ?_); first | refine WL.step rfl (StepTo.boxA rfl rfl rfl rfl (fun _ => ?_)) | refine WL.step rfl (StepTo.box1 rfl rfl rfl rfl rfl (fun _ => ?_)))
    | with_reducible refine WC.block ?_
    | (refine WC.cond rfl (fun hc => ?_) (fun hc => ?_) <;> (try first | (with_reducible replace hc := of_decide_eq_true hc) | (with_reducible replace hc := of_decide_eq_false hc) | (with_reducible replace hc := eqT hc) | (with_reducible replace hc := eqF hc) | (with_reducible replace hc := neT hc) | (with_reducible replace hc := neF hc) | (with_reducible replace hc := noT hc) | (with_reducible replace hc := noF hc)) <;> (try (exfalso; omega))))
    exact WQ.body (Reads.tmp rfl rfl) fun w' hw' => ⟨rfl, hw'.ext.below⟩
  have h4 : ∀ d ∈ g.D, d < 4294967296 := fun d hd => by have := hg.D.hi d hd; omega
  rw [Gt.ab_len] at hl
  have hcnt := Gt.miss_count hg.D
  have hmm := fun d => Gt.miss_mem (D := g.D) (t := Gt.last g.D + 1) (d := d)
  have hmu := Gt.miss_up g.D (Gt.last g.D + 1)
  have hlh := Gt.last_hi hg.D
  have mq := fun w {V : Nat → Prop} hL => missing_w (V := V) A n k B m l g.c g.D w hL hg.D hg.c
  have lq := fun w hL => last_q A n k B m l g.c g.D w hL hg.c
  unfold MissR at mq
  generalize Gt.miss g.D (Gt.last g.D + 1) = ms at *
  generalize Gt.last g.D = T at *
  refine enterW (fun _ => False) _ Try.func7 rfl (by simp only [Try.ntmps7, List.length_cons, List.length_nil, Nat.reduceAdd, Nat.reduceSub]; rfl) ?_
  refine WC.addVw (ic_len .u32) hL ?_
  repeat' (first
    | refine goS ?_
    | ((with_reducible refine WL.isN_bin ?_); first | refine WL.yld rfl binQ ?_)
    | ((with_reducible refine WL.isN_load ?_); first | refine WL.yld rfl loadQ ?_)
    | ((with_reducible refine WL.isN_iaddr ?_); first | refine WL.yld rfl iaddrQ ?_)
    | ((with_reducible refine WL.isN_conv ?_); first | refine WL.yld rfl convQ ?_)
    | ((with_reducible refine WL.isN_call ?_); first | refine WL.step rfl (StepTo.callV (v := .bool true) (us := []) rfl rfl rfl rfl rfl (by kernel_rfl) (fun w hw => gshown_q w) ?_) | refine WL.step rfl (StepTo.callV (v := gv g.c A n k B m l) (us := [gv g.c A n k B m l]) rfl rfl rfl rfl rfl (by kernel_rfl) (fun w hw => as_q g.c A n k B m l w) ?_) | refine WL.step rfl (StepTo.callV (v := .bool true) (us := [gv g.c A n k B m l]) rfl rfl rfl rfl rfl (by kernel_rfl) (fun w hw => rq w (hw.lst 1 (ic_len .u32) (by omega) rfl)) ?_) | refine WL.yld rfl lenQ ?_)
    | ((with_reducible refine WL.isN_box ?_); first | refine WL.step rfl (StepTo.boxA rfl rfl rfl rfl (fun _ => ?_)) | refine WL.step rfl (StepTo.box1 rfl rfl rfl rfl rfl (fun _ => ?_)))
    | with_reducible refine WC.block ?_
    | (refine WC.cond rfl (fun hc => ?_) (fun hc => ?_) <;> (try first | (with_reducible replace hc := of_decide_eq_true hc) | (with_reducible replace hc := of_decide_eq_false hc) | (with_reducible replace hc := eqT hc) | (with_reducible replace hc := eqF hc) | (with_reducible replace hc := neT hc) | (with_reducible replace hc := neF hc) | (with_reducible replace hc := noT hc) | (with_reducible replace hc := noF hc)) <;> (try (exfalso; omega))))
  refine WL.step rfl (StepTo.callN [] (us := [gv g.c A n k B m l]) rfl rfl rfl rfl rfl (by kernel_rfl) (fun w hw => mq w (hw.lst 1 (ic_len .u32) (by omega) rfl)) ?_)
  rintro v N ⟨Al, q, kl, rfl, okl, hq, rfl⟩
  repeat' (first
    | refine goS ?_
    | ((with_reducible refine WL.isN_bin ?_); first | refine WL.yld rfl binQ ?_)
    | ((with_reducible refine WL.isN_load ?_); first | refine WL.yld rfl loadQ ?_)
    | ((with_reducible refine WL.isN_iaddr ?_); first | refine WL.yld rfl iaddrQ ?_)
    | ((with_reducible refine WL.isN_conv ?_); first | refine WL.yld rfl convQ ?_)
    | ((with_reducible refine WL.isN_call ?_); first | refine WL.yld rfl lenQ ?_)
    | ((with_reducible refine WL.isN_box ?_); first | refine WL.step rfl (StepTo.boxA rfl rfl rfl rfl (fun _ => ?_)) | refine WL.step rfl (StepTo.box1 rfl rfl rfl rfl rfl (fun _ => ?_)))
    | with_reducible refine WC.block ?_
    | (refine WC.cond rfl (fun hc => ?_) (fun hc => ?_) <;> (try first | (with_reducible replace hc := of_decide_eq_true hc) | (with_reducible replace hc := of_decide_eq_false hc) | (with_reducible replace hc := eqT hc) | (with_reducible replace hc := eqF hc) | (with_reducible replace hc := neT hc) | (with_reducible replace hc := neF hc) | (with_reducible replace hc := noT hc) | (with_reducible replace hc := noF hc)) <;> (try (exfalso; omega))))
  rename_i b1
  refine WC.loop (fun mm τ H => ∃ i : Nat, i ≤ q ∧ mm = q - i ∧
      τ = [(1, .pointer (some ⟨b1, 0, none⟩)), (5, .slice Al q kl), (6, .int .i64 (i : Nat))] ∧
      H = [.vw Al q 1 (flat (ic .u32) (Gt.ab g.c ms)), .box b1 25 [.int .u32 g.c, .slice A n k, .slice B m l], .vw A n 1 (flat (ic .u32) (Gt.ab g.c g.D))]) q _ _ [0, 1, 2] ?_ ?_ ⟨0, by omega, rfl, rfl, rfl⟩ ?_
  · exact (by repeat (first | exact Sub.nil | refine Sub.cons rfl ?_ | refine Sub.consE rfl (int_eq (by omega)) ?_))
  · exact ⟨by decide, rfl⟩
  rintro mm τ H ⟨i, hi, rfl, rfl, rfl⟩
  by_cases hin : i < q
  · obtain ⟨d, hd⟩ : ∃ d, ms[i]? = some d := ⟨_, List.getElem?_eq_getElem (by omega)⟩
    obtain ⟨hd1, hd2, hd3⟩ := (hmm d).1 (List.mem_of_getElem? hd)
    have hxd := Gt.ab_get (c := g.c) hd
    have hhas : Gt.has g.D (Gt.ds g.c (Gt.up g.c d)) = false := by
      rw [Gt.ds_up (by omega)]
      unfold Gt.has
      simp [hd3]; omega
    have hup := Gt.up_in g.c d
    have hq1 := fun w hL => has_q A n k g.c (Gt.up g.c d) g.D B m l w hL (by omega) hg.D.up h4 hup hg.c
    rw [hhas] at hq1
    have hv : Value.int .u32 ((Gt.up g.c d - g.c) % 4294967296) = .int .u32 (d : Nat) := by congr 1; unfold Gt.up Gt.M; omega
    refine WC.vwAt 0 rfl (by omega) fun b o hA => ?_
    subst hA
    by_cases hi0 : i = 0
    · subst hi0
      repeat' (first
    | refine goS ?_
    | ((with_reducible refine WL.isN_bin ?_); first | refine WL.yld rfl binQ ?_)
    | ((with_reducible refine WK.isN_bin ?_); first | refine WK.yld rfl binQ ?_)
    | ((with_reducible refine WL.isN_load ?_); first | refine WL.yld rfl (Yld.load rfl rfl rfl rfl (CellAt.vwE 0 rfl (ic_get hxd) (by omega))) ?_ | refine WL.yld rfl loadQ ?_)
    | ((with_reducible refine WK.isN_load ?_); first | refine WK.yld rfl (Yld.load rfl rfl rfl rfl (CellAt.vwE 0 rfl (ic_get hxd) (by omega))) ?_ | refine WK.yld rfl loadQ ?_)
    | ((with_reducible refine WL.isN_iaddr ?_); first | refine WL.yld rfl (Yld.indexS 0 rfl rfl rfl rfl rfl rfl hin) ?_ | refine WL.yld rfl iaddrQ ?_)
    | ((with_reducible refine WK.isN_iaddr ?_); first | refine WK.yld rfl (Yld.indexS 0 rfl rfl rfl rfl rfl rfl hin) ?_ | refine WK.yld rfl iaddrQ ?_)
    | ((with_reducible refine WL.isN_conv ?_); first | refine WL.yld rfl convQ ?_)
    | ((with_reducible refine WK.isN_conv ?_); first | refine WK.yld rfl convQ ?_)
    | ((with_reducible refine WL.isN_call ?_); first | refine WK.step rfl (Qui.call (v := .bool false) (us := [gv g.c A n k B m l, .int .u32 (Gt.up g.c d)]) rfl rfl rfl (by kernel_rfl) (fun w hw => hq1 w (hw.lst 2 (ic_len .u32) (by omega) rfl))) ?_ | refine WL.yld rfl lenQ ?_)
    | ((with_reducible refine WK.isN_call ?_); first | refine WK.step rfl (Qui.call (v := .bool false) (us := [gv g.c A n k B m l, .int .u32 (Gt.up g.c d)]) rfl rfl rfl (by kernel_rfl) (fun w hw => hq1 w (hw.lst 2 (ic_len .u32) (by omega) rfl))) ?_ | refine WK.yld rfl lenQ ?_)
    | ((with_reducible refine WL.isN_box ?_); first | refine WL.step rfl (StepTo.boxA rfl rfl rfl rfl (fun _ => ?_)) | refine WL.step rfl (StepTo.box1 rfl rfl rfl rfl rfl (fun _ => ?_)))
    | with_reducible refine WC.block ?_
    | (refine WC.quiet (i := 9) (by kernel_rfl) (by kernel_rfl) ?_)
    | (refine WC.cond rfl (fun hc => ?_) (fun hc => ?_) <;> (try first | (with_reducible replace hc := of_decide_eq_true hc) | (with_reducible replace hc := of_decide_eq_false hc) | (with_reducible replace hc := eqT hc) | (with_reducible replace hc := eqF hc) | (with_reducible replace hc := neT hc) | (with_reducible replace hc := neF hc) | (with_reducible replace hc := noT hc) | (with_reducible replace hc := noF hc)) <;> (try (exfalso; omega))))
      exact WQ.rnd (q - (0 + 1)) _ _ [0, 1, 2] (by repeat (first | exact Sub.nil | refine Sub.cons rfl ?_ | refine Sub.consE rfl (int_eq (by omega)) ?_)) ⟨by decide, rfl⟩ (by omega) ⟨0 + 1, by omega, rfl, rfl, rfl⟩
    · obtain ⟨e, he⟩ : ∃ e, ms[i - 1]? = some e := ⟨_, List.getElem?_eq_getElem (by omega)⟩
      have hxe := Gt.ab_get (c := g.c) he
      have hed : e < d := by
        obtain ⟨h1, e1⟩ := List.getElem?_eq_some_iff.1 he
        obtain ⟨h2, e2⟩ := List.getElem?_eq_some_iff.1 hd
        have := List.pairwise_iff_getElem.1 hmu (i - 1) i h1 h2 (by omega)
        omega
      have hv2 : Value.int .u32 ((Gt.up g.c e - g.c) % 4294967296) = .int .u32 (e : Nat) := by congr 1; unfold Gt.up Gt.M; omega
      repeat' (first
    | refine goS ?_
    | ((with_reducible refine WL.isN_bin ?_); first | refine WL.yld rfl (Yld.as (Yld.pure rfl mU32) hv) ?_ | refine WL.yld rfl (Yld.as (Yld.pure rfl mU32) hv2) ?_ | refine WL.yld rfl binQ ?_)
    | ((with_reducible refine WK.isN_bin ?_); first | refine WK.yld rfl (Yld.as (Yld.pure rfl mU32) hv) ?_ | refine WK.yld rfl (Yld.as (Yld.pure rfl mU32) hv2) ?_ | refine WK.yld rfl binQ ?_)
    | ((with_reducible refine WL.isN_load ?_); first | refine WL.yld rfl (Yld.load rfl rfl rfl rfl (CellAt.vwE 0 rfl (ic_get hxd) (by omega))) ?_ | refine WL.yld rfl (Yld.load rfl rfl rfl rfl (CellAt.vwE 0 rfl (ic_get hxe) (by omega))) ?_ | refine WL.yld rfl loadQ ?_)
    | ((with_reducible refine WK.isN_load ?_); first | refine WK.yld rfl (Yld.load rfl rfl rfl rfl (CellAt.vwE 0 rfl (ic_get hxd) (by omega))) ?_ | refine WK.yld rfl (Yld.load rfl rfl rfl rfl (CellAt.vwE 0 rfl (ic_get hxe) (by omega))) ?_ | refine WK.yld rfl loadQ ?_)
    | ((with_reducible refine WL.isN_iaddr ?_); first | refine WL.yld rfl (Yld.indexS i rfl rfl rfl rfl rfl rfl hin) ?_ | refine WL.yld rfl (Yld.indexS (i - 1) rfl rfl rfl rfl rfl (by omega) (by omega)) ?_ | refine WL.yld rfl iaddrQ ?_)
    | ((with_reducible refine WK.isN_iaddr ?_); first | refine WK.yld rfl (Yld.indexS i rfl rfl rfl rfl rfl rfl hin) ?_ | refine WK.yld rfl (Yld.indexS (i - 1) rfl rfl rfl rfl rfl (by omega) (by omega)) ?_ | refine WK.yld rfl iaddrQ ?_)
    | ((with_reducible refine WL.isN_conv ?_); first | refine WL.yld rfl convQ ?_)
    | ((with_reducible refine WK.isN_conv ?_); first | refine WK.yld rfl convQ ?_)
    | ((with_reducible refine WL.isN_call ?_); first | refine WK.step rfl (Qui.call (v := .bool false) (us := [gv g.c A n k B m l, .int .u32 (Gt.up g.c d)]) rfl rfl rfl (by kernel_rfl) (fun w hw => hq1 w (hw.lst 2 (ic_len .u32) (by omega) rfl))) ?_ | refine WL.yld rfl lenQ ?_)
    | ((with_reducible refine WK.isN_call ?_); first | refine WK.step rfl (Qui.call (v := .bool false) (us := [gv g.c A n k B m l, .int .u32 (Gt.up g.c d)]) rfl rfl rfl (by kernel_rfl) (fun w hw => hq1 w (hw.lst 2 (ic_len .u32) (by omega) rfl))) ?_ | refine WK.yld rfl lenQ ?_)
    | ((with_reducible refine WL.isN_box ?_); first | refine WL.step rfl (StepTo.boxA rfl rfl rfl rfl (fun _ => ?_)) | refine WL.step rfl (StepTo.box1 rfl rfl rfl rfl rfl (fun _ => ?_)))
    | with_reducible refine WC.block ?_
    | (refine WC.quiet (i := 9) (by kernel_rfl) (by kernel_rfl) ?_)
    | (refine WC.cond rfl (fun hc => ?_) (fun hc => ?_) <;> (try first | (with_reducible replace hc := of_decide_eq_true hc) | (with_reducible replace hc := of_decide_eq_false hc) | (with_reducible replace hc := eqT hc) | (with_reducible replace hc := eqF hc) | (with_reducible replace hc := neT hc) | (with_reducible replace hc := neF hc) | (with_reducible replace hc := noT hc) | (with_reducible replace hc := noF hc)) <;> (try (exfalso; omega))))
      exact WQ.rnd (q - (i + 1)) _ _ [0, 1, 2] (by repeat (first | exact Sub.nil | refine Sub.cons rfl ?_ | refine Sub.consE rfl (int_eq (by omega)) ?_)) ⟨by decide, rfl⟩ (by omega) ⟨i + 1, by omega, rfl, rfl, rfl⟩
  have hvT : Value.int .u32 ((Gt.up g.c T - g.c) % 4294967296) = .int .u32 (T : Nat) := by congr 1; unfold Gt.up Gt.M; omega
  have hfin : ((T : Int) == (q : Int) + (n : Int)) = true := beqT (by omega)
  repeat' (first
    | refine goS ?_
    | ((with_reducible refine WL.isN_bin ?_); first | refine WL.yld rfl (Yld.as (Yld.pure rfl mU32) hvT) ?_ | refine WL.yld rfl binQ ?_)
    | ((with_reducible refine WK.isN_bin ?_); first | refine WK.yld rfl (Yld.as (Yld.pure rfl mU32) hvT) ?_ | refine WK.yld rfl binQ ?_)
    | ((with_reducible refine WL.isN_load ?_); first | refine WL.yld rfl loadQ ?_)
    | ((with_reducible refine WK.isN_load ?_); first | refine WK.yld rfl loadQ ?_)
    | ((with_reducible refine WL.isN_iaddr ?_); first | refine WL.yld rfl iaddrQ ?_)
    | ((with_reducible refine WK.isN_iaddr ?_); first | refine WK.yld rfl iaddrQ ?_)
    | ((with_reducible refine WL.isN_conv ?_); first | refine WL.yld rfl convQ ?_)
    | ((with_reducible refine WK.isN_conv ?_); first | refine WK.yld rfl convQ ?_)
    | ((with_reducible refine WL.isN_call ?_); first | refine WK.step rfl (Qui.call (v := .int .u32 (Gt.up g.c T)) (us := [gv g.c A n k B m l]) rfl rfl rfl (by kernel_rfl) (fun w hw => lq w (hw.lst 2 (ic_len .u32) (by omega) rfl))) ?_ | refine WL.yld rfl lenQ ?_)
    | ((with_reducible refine WK.isN_call ?_); first | refine WK.step rfl (Qui.call (v := .int .u32 (Gt.up g.c T)) (us := [gv g.c A n k B m l]) rfl rfl rfl (by kernel_rfl) (fun w hw => lq w (hw.lst 2 (ic_len .u32) (by omega) rfl))) ?_ | refine WK.yld rfl lenQ ?_)
    | ((with_reducible refine WL.isN_box ?_); first | refine WL.step rfl (StepTo.boxA rfl rfl rfl rfl (fun _ => ?_)) | refine WL.step rfl (StepTo.box1 rfl rfl rfl rfl rfl (fun _ => ?_)))
    | with_reducible refine WC.block ?_
    | (refine WC.quiet (i := 11) (by kernel_rfl) (by kernel_rfl) ?_)
    | (refine WC.cond rfl (fun hc => ?_) (fun hc => ?_) <;> (try first | (with_reducible replace hc := of_decide_eq_true hc) | (with_reducible replace hc := of_decide_eq_false hc) | (with_reducible replace hc := eqT hc) | (with_reducible replace hc := eqF hc) | (with_reducible replace hc := neT hc) | (with_reducible replace hc := neF hc) | (with_reducible replace hc := noT hc) | (with_reducible replace hc := noF hc)) <;> (try (exfalso; omega))))
  exact WQ.body (Reads.tmp rfl rfl) fun w' hw' => ⟨by rw [hfin], hw'.ext.below⟩
end Go.Proofs.Ythbhjnmkbmmcnaa
