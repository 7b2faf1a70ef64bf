/- How what came in is read; the law GotTakes. -/
import Derived.Test.YthbhjnmkbmmcnaaGtG
import Derived.Test.YthbhjnmkbmmcnaaOpn
namespace Go.Proofs.Ythbhjnmkbmmcnaa
open Go.RowKit Go.IntWalk Go.ChangeShapes Go.WideShapes Go.ChangeAt Go.Deep
set_option linter.unusedVariables false
set_option linter.unusedSimpArgs false
set_option linter.unusedSectionVars false
set_option maxRecDepth 100000

/-- A number of 32 bits. -/
def U32 (x : Int) : Prop := 0 ≤ x ∧ x < 4294967296
theorem u32_of {x : Int} (h : (Lit.int .u32 x).wf = true) : U32 x := by
  have g0 : 0 ≤ x ∧ x ≤ 4294967295 := by simpa [Lit.wf, IntKind.min, IntKind.max, IntKind.bits, IntKind.signed] using h
  exact ⟨g0.1, by omega⟩
section
variable {H : Type} {enc : TypeId × Value → H} {w : World} {base : Nat} {spare : Nat → Bool} {held : Bool}
theorem open_nums {fuel : Nat} {c1 : Value} {y : DataW H × List MemPlace} (hz : DataW.trod enc Try.prog w base spare held fuel 23 [c1] = some y) (hs : ∀ a len cap, c1 = .slice (some a) len cap → a.spot = none) :
    ∃ A n c xs, c1 = .slice A n c ∧ Lst (ic .u32) 1 w w.heap.size A n xs ∧ okA A n ∧ n ≤ c ∧ (∀ a ∈ xs, U32 a) := by
  obtain ⟨A, n, c, xs, h1, h2, hw, h3, h4, _⟩ := open_list (enc := ic .u32) (k := 1) 0 U32 Try.underlying23 (by kernel_rfl) (by omega) (ic_len .u32) (c1 := c1) hz (fun n cs' z hl hz => by
    match cs', hl with
    | [c0], _ =>
      obtain ⟨a5, f5, _, w5⟩ := DataW.trod_int Try.underlying22 hz
      simp only [List.cons.injEq, and_true] at f5
      subst f5
      exact ⟨a5, u32_of w5, rfl⟩) hs
  exact ⟨A, n, c, xs, h1, h2, h3, h4, hw⟩
theorem open_u32s {r : Reach} {b0 : Nat} {v : Value} {d : DataW H} {p : List MemPlace} (hv : Value.okWide Try.prog w r b0 23 v) (h : DataW.Trod enc Try.prog w base spare held 23 v d p) :
    ∃ A n c xs, v = .slice A n c ∧ Lst (ic .u32) 1 w w.heap.size A n xs ∧ okA A n ∧ n ≤ c ∧ (∀ a ∈ xs, U32 a) := by
  obtain ⟨A0, n0, c0, rfl⟩ := okWide_slice Try.underlying23 hv
  obtain ⟨fuel, hf⟩ := h
  have hok : Cell.okWide Try.prog w r b0 23 (.slice A0 n0 c0) := by
    unfold Value.okWide at hv
    rw [Try.underlying23] at hv
    exact hv
  exact open_nums hf (spot_of_cell Try.underlying23 hok)
theorem open_got {r : Reach} {b0 : Nat} {v : Value} {d : DataW H} {p : List MemPlace} (hv : Value.okWide Try.prog w r b0 25 v) (h : DataW.Trod enc Try.prog w base spare held 25 v d p) :
    ∃ c A n k B m l xs ys, v = gv c A n k B m l ∧ U32 c ∧ Lst (ic .u32) 1 w w.heap.size A n xs ∧ okA A n ∧ n ≤ k ∧ (∀ a ∈ xs, U32 a) ∧ Lst (ic .u32) 1 w w.heap.size B m ys ∧ okA B m ∧ m ≤ l ∧ (∀ a ∈ ys, U32 a) := by
  obtain ⟨cs, rfl, hsz, ts, hts, _, hcell⟩ : ∃ cs, v = .agg cs ∧ cs.size = (Try.prog).cellsOf 25 ∧ Row.okWide Try.prog w r b0 25 cs := by
    unfold Value.okWide at hv
    rw [Try.underlying25] at hv
    exact hv
  have h2 : (Try.prog).cellsOf 25 = 3 := by kernel_rfl
  have hts' : (Try.prog).cellTypes (Try.prog).depth 25 = some [22, 23, 23] := by kernel_rfl
  rw [hts'] at hts
  injection hts with hts
  subst hts
  rw [h2] at hsz
  obtain ⟨l⟩ := cs
  match l, hsz with
  | [c0, c1, c2], _ =>
    obtain ⟨u1, hu1, hok1⟩ := hcell 1 c1 rfl
    obtain ⟨u2, hu2, hok2⟩ := hcell 2 c2 rfl
    simp only [List.length_cons, List.length_nil] at hu1 hu2
    obtain rfl : u1 = 23 := by simpa using hu1.symm
    obtain rfl : u2 = 23 := by simpa using hu2.symm
    obtain ⟨fuel, hf⟩ := h
    obtain ⟨xs, n, _, hx, _, hxl, hg⟩ := DataW.trod_struct Try.underlying25 hf
    match xs, hxl with
    | [y0, y1, y2], _ =>
      obtain ⟨a0, f0, _, w0⟩ := DataW.trod_int Try.underlying22 (show DataW.trod enc Try.prog w base spare held n 22 [c0] = some y0 from hg 0 _ rfl)
      obtain ⟨A, n1, k1, ps, e1, e2, e3, e4, e5⟩ := open_nums (show DataW.trod enc Try.prog w base spare held n 23 [c1] = some y1 from hg 1 _ rfl) (spot_of_cell Try.underlying23 hok1)
      obtain ⟨B, m1, l1, qs, i1, i2, i3, i4, i5⟩ := open_nums (show DataW.trod enc Try.prog w base spare held n 23 [c2] = some y2 from hg 2 _ rfl) (spot_of_cell Try.underlying23 hok2)
      simp only [List.cons.injEq, and_true] at f0
      subst f0 e1 i1
      exact ⟨a0, A, n1, k1, B, m1, l1, ps, qs, rfl, u32_of w0, e2, e3, e4, e5, i2, i3, i4, i5⟩
end
/-- Of right ones the distances. -/
theorem Gt.right_or (c : Int) (hc : U32 c) (xs : List Int) (ys : List Int) (m : Nat) (hm : ys.length = m) (hx : ∀ a ∈ xs, U32 a) : (¬ (Gt.Rt c xs ∧ m ≤ 100)) ∨ ((Gt.Rt c xs ∧ m ≤ 100) ∧ ∃ g : Gt.G, g.Ok ∧ g.c = c ∧ g.du = ys ∧ xs = Gt.ab g.c g.D) := by
  by_cases h : Gt.Rt c xs ∧ m ≤ 100
  · obtain ⟨h1, h2⟩ := h.1.ok hx
    exact .inr ⟨h, ⟨c, xs.map (Gt.ds c), ys⟩, ⟨hc, h1, by rw [hm]; exact h.2⟩, rfl, rfl, h2.symm⟩
  · exact .inl h
set_option maxHeartbeats 8000000 in
theorem gotTakes_walk (c : Int) (A : Option Addr) (n k : Nat) (B : Option Addr) (m l : Nat) (xs ys : List Int) (x : Int) (w : World) (hc : U32 c) (hL : Lst (ic .u32) 1 w w.heap.size A n xs) (hA : okA A n) (hnk : n ≤ k) (hx : ∀ a ∈ xs, U32 a) (hM : Lst (ic .u32) 1 w w.heap.size B m ys) (hB : okA B m) (hml : m ≤ l) (_hy : ∀ a ∈ ys, U32 a) (w1 : (Lit.int .u32 x).wf = true) :
    Calls Try.prog 3 #[gv c A n k B m l, .int .u32 x] w fun e w' => e = .returned (.bool true) ∧ Below w.heap.size w w' := by
  have hxu := u32_of w1
  have hl := hL.len
  have hm := hM.len
  have hnm := hL.most
  unfold maxLen at hnm
  rcases Gt.right_or c hc xs ys m hm hx with hR | ⟨hR, g, hg, rfl, rfl, rfl⟩
  · have rq := fun w hL => right_q c A n k B m l xs false (by simp [hR]) w hL
    refine enterW (fun _ => False) _ Try.func3 rfl (by simp only [Try.ntmps3, List.length_cons, List.length_nil, Nat.reduceAdd, Nat.reduceSub]; rfl) ?_
    refine WC.addVw (ic_len .u32) hL ?_
    repeat' (first
    | refine goS ?_
    | ((with_reducible refine WL.isN_bin ?_); first | refine WL.yld rfl binQ ?_)
    | ((with_reducible refine WL.isN_load ?_); first | refine WL.yld rfl loadQ ?_)
    | ((with_reducible refine WL.isN_call ?_); first | refine WL.step rfl (StepTo.callV (v := .bool true) (us := []) rfl rfl rfl rfl rfl (by kernel_rfl) (fun w hw => gshown_q w) ?_) | refine WL.step rfl (StepTo.callV (v := gv c A n k B m l) (us := [gv c A n k B m l]) rfl rfl rfl rfl rfl (by kernel_rfl) (fun w hw => as_q c A n k B m l w) ?_) | refine WL.step rfl (StepTo.callV (v := .bool false) (us := [gv c A n k B m l]) rfl rfl rfl rfl rfl (by kernel_rfl) (fun w hw => rq w (hw.lst 1 (ic_len .u32) (by omega) rfl)) ?_) | refine WL.yld rfl lenQ ?_)
    | ((with_reducible refine WL.isN_box ?_); first | refine WL.step rfl (StepTo.boxA rfl rfl rfl rfl (fun _ => ?_)) | refine WL.step rfl (StepTo.box1 rfl rfl rfl rfl rfl (fun _ => ?_)))
    | ((with_reducible refine WL.isN_alloc ?_); first | refine WL.step rfl (StepTo.allocA rfl rfl rfl rfl (fun _ => ?_)) | refine WL.step rfl (StepTo.alloc1 rfl rfl rfl rfl rfl (fun _ => ?_)))
    | ((with_reducible refine WL.isN_store ?_); first | refine WL.step rfl (StepTo.st1 rfl rfl rfl rfl rfl rfl ?_) | refine WL.step rfl (StepTo.stA rfl rfl rfl rfl rfl rfl rfl ?_) | refine WL.step rfl (StepTo.stR rfl rfl rfl rfl rfl rfl rfl ?_))
    | with_reducible refine WC.block ?_
    | (refine WC.cond rfl (fun hc => ?_) (fun hc => ?_) <;> (try first | (with_reducible replace hc := of_decide_eq_true hc) | (with_reducible replace hc := of_decide_eq_false hc) | (with_reducible replace hc := eqT hc) | (with_reducible replace hc := eqF hc) | (with_reducible replace hc := neT hc) | (with_reducible replace hc := neF hc) | (with_reducible replace hc := noT hc) | (with_reducible replace hc := noF hc)) <;> (try (exfalso; omega))))
    exact WQ.body (Reads.tmp rfl rfl) fun w' hw' => ⟨rfl, hw'.ext.below⟩
  have rq := fun w hL => right_q g.c A n k B m l (Gt.ab g.c g.D) true (by simp [hR]) w hL
  by_cases h60 : 60 < n
  · refine enterW (fun _ => False) _ Try.func3 rfl (by simp only [Try.ntmps3, List.length_cons, List.length_nil, Nat.reduceAdd, Nat.reduceSub]; rfl) ?_
    refine WC.addVw (ic_len .u32) hL ?_
    repeat' (first
    | refine goS ?_
    | ((with_reducible refine WL.isN_bin ?_); first | refine WL.yld rfl binQ ?_)
    | ((with_reducible refine WL.isN_load ?_); first | refine WL.yld rfl loadQ ?_)
    | ((with_reducible refine WL.isN_call ?_); first | refine WL.step rfl (StepTo.callV (v := .bool true) (us := []) rfl rfl rfl rfl rfl (by kernel_rfl) (fun w hw => gshown_q w) ?_) | refine WL.step rfl (StepTo.callV (v := gv g.c A n k B m l) (us := [gv g.c A n k B m l]) rfl rfl rfl rfl rfl (by kernel_rfl) (fun w hw => as_q g.c A n k B m l w) ?_) | refine WL.step rfl (StepTo.callV (v := .bool true) (us := [gv g.c A n k B m l]) rfl rfl rfl rfl rfl (by kernel_rfl) (fun w hw => rq w (hw.lst 1 (ic_len .u32) (by omega) rfl)) ?_) | refine WL.yld rfl lenQ ?_)
    | ((with_reducible refine WL.isN_box ?_); first | refine WL.step rfl (StepTo.boxA rfl rfl rfl rfl (fun _ => ?_)) | refine WL.step rfl (StepTo.box1 rfl rfl rfl rfl rfl (fun _ => ?_)))
    | ((with_reducible refine WL.isN_alloc ?_); first | refine WL.step rfl (StepTo.allocA rfl rfl rfl rfl (fun _ => ?_)) | refine WL.step rfl (StepTo.alloc1 rfl rfl rfl rfl rfl (fun _ => ?_)))
    | ((with_reducible refine WL.isN_store ?_); first | refine WL.step rfl (StepTo.st1 rfl rfl rfl rfl rfl rfl ?_) | refine WL.step rfl (StepTo.stA rfl rfl rfl rfl rfl rfl rfl ?_) | refine WL.step rfl (StepTo.stR rfl rfl rfl rfl rfl rfl rfl ?_))
    | with_reducible refine WC.block ?_
    | (refine WC.cond rfl (fun hc => ?_) (fun hc => ?_) <;> (try first | (with_reducible replace hc := of_decide_eq_true hc) | (with_reducible replace hc := of_decide_eq_false hc) | (with_reducible replace hc := eqT hc) | (with_reducible replace hc := eqF hc) | (with_reducible replace hc := neT hc) | (with_reducible replace hc := neF hc) | (with_reducible replace hc := noT hc) | (with_reducible replace hc := noF hc)) <;> (try (exfalso; omega))))
    exact WQ.body (Reads.tmp rfl rfl) fun w' hw' => ⟨rfl, hw'.ext.below⟩
  have h4 : ∀ d ∈ g.D, d < 4294967296 := fun d hd => by have := hg.D.hi d hd; omega
  have tq := fun w {V : Nat → Prop} hL hM hVA hVB => take_w (V := V) A n k B m l g x w hL hM hA hB hnk hml hg (by omega) hxu hVA hVB
  have uq := fun w {V : Nat → Prop} hL hM hVA hVB => rtake_w (V := V) A n k B m l g x w hL hM hA hB hnk hml hg (by omega) hxu hVA hVB
  have hq1 := fun w hL => has_q A n k g.c x g.D B m l w hL (by omega) hg.D.up h4 hxu hg.c
  have hq2 := fun w hL => rhas_q A n k g.c x g.D B m l w hL (by omega) h4 hxu
  have hlen := Gt.take_len hg x
  have hok := Gt.take_ok hg x
  generalize Gt.has g.D (Gt.ds g.c x) = hb at hq1 hq2
  have hgb : (hb == hb) = true := by simp
  generalize Gt.take g x = r at *
  obtain ⟨g', y⟩ := r
  have hgy : (y == y) = true := by simp
  simp only at hlen hok
  have hdu := hok.du
  rw [Gt.ab_len] at hl
  refine enterW (fun _ => False) _ Try.func3 rfl (by simp only [Try.ntmps3, List.length_cons, List.length_nil, Nat.reduceAdd, Nat.reduceSub]; rfl) ?_
  refine WC.addVw (ic_len .u32) hM ?_
  refine WC.addVw (ic_len .u32) hL ?_
  refine WC.nilVw 1 ?_
  repeat' (first
    | refine goS ?_
    | ((with_reducible refine WL.isN_bin ?_); first | refine WL.yld rfl binQ ?_)
    | ((with_reducible refine WL.isN_load ?_); first | refine WL.yld rfl loadQ ?_)
    | ((with_reducible refine WL.isN_call ?_); first | refine WL.step rfl (StepTo.callV (v := .bool true) (us := []) rfl rfl rfl rfl rfl (by kernel_rfl) (fun w hw => gshown_q w) ?_) | refine WL.step rfl (StepTo.callV (v := gv g.c A n k B m l) (us := [gv g.c A n k B m l]) rfl rfl rfl rfl rfl (by kernel_rfl) (fun w hw => as_q g.c A n k B m l w) ?_) | refine WL.step rfl (StepTo.callV (v := .bool true) (us := [gv g.c A n k B m l]) rfl rfl rfl rfl rfl (by kernel_rfl) (fun w hw => rq w (hw.lst 2 (ic_len .u32) (by omega) rfl)) ?_) | refine WL.yld rfl lenQ ?_)
    | ((with_reducible refine WL.isN_box ?_); first | refine WL.step rfl (StepTo.boxA rfl rfl rfl rfl (fun _ => ?_)) | refine WL.step rfl (StepTo.box1 rfl rfl rfl rfl rfl (fun _ => ?_)))
    | ((with_reducible refine WL.isN_alloc ?_); first | refine WL.step rfl (StepTo.allocA rfl rfl rfl rfl (fun _ => ?_)) | refine WL.step rfl (StepTo.alloc1 rfl rfl rfl rfl rfl (fun _ => ?_)))
    | ((with_reducible refine WL.isN_store ?_); first | refine WL.step rfl (StepTo.st1 rfl rfl rfl rfl rfl rfl ?_) | refine WL.step rfl (StepTo.stA rfl rfl rfl rfl rfl rfl rfl ?_) | refine WL.step rfl (StepTo.stR rfl rfl rfl rfl rfl rfl rfl ?_))
    | with_reducible refine WC.block ?_
    | (refine WC.cond rfl (fun hc => ?_) (fun hc => ?_) <;> (try first | (with_reducible replace hc := of_decide_eq_true hc) | (with_reducible replace hc := of_decide_eq_false hc) | (with_reducible replace hc := eqT hc) | (with_reducible replace hc := eqF hc) | (with_reducible replace hc := neT hc) | (with_reducible replace hc := neF hc) | (with_reducible replace hc := noT hc) | (with_reducible replace hc := noF hc)) <;> (try (exfalso; omega))))
  refine WL.step rfl (StepTo.callN [2, 3] (us := [gv g.c A n k B m l, .int .u32 x]) rfl rfl rfl rfl rfl (by kernel_rfl) (fun w hw => tq w (hw.lst 2 (ic_len .u32) (by omega) rfl) (hw.lst 3 (ic_len .u32) (by omega) rfl) (nearV.vs 2 rfl (by simp)) (nearV.vs 3 rfl (by simp))) ?_)
  rintro v N ⟨A1, n1, k1, B1, m1, l1, rfl, oA1, oB1, hn1, hm1, hk1, hl1, rfl⟩
  simp only at hn1 hm1
  dsimp only
  repeat' (first
    | refine goS ?_
    | ((with_reducible refine WL.isN_bin ?_); first | refine WL.yld rfl binQ ?_)
    | ((with_reducible refine WL.isN_load ?_); first | refine WL.yld rfl loadQ ?_)
    | ((with_reducible refine WL.isN_call ?_); first | refine WL.step rfl (StepTo.callV (v := gv g.c A n k B m l) (us := [gv g.c A n k B m l]) rfl rfl rfl rfl rfl (by kernel_rfl) (fun w hw => as_q g.c A n k B m l w) ?_) | refine WL.yld rfl lenQ ?_)
    | ((with_reducible refine WL.isN_box ?_); first | refine WL.step rfl (StepTo.boxA rfl rfl rfl rfl (fun _ => ?_)) | refine WL.step rfl (StepTo.box1 rfl rfl rfl rfl rfl (fun _ => ?_)))
    | ((with_reducible refine WL.isN_alloc ?_); first | refine WL.step rfl (StepTo.allocA rfl rfl rfl rfl (fun _ => ?_)) | refine WL.step rfl (StepTo.alloc1 rfl rfl rfl rfl rfl (fun _ => ?_)))
    | ((with_reducible refine WL.isN_store ?_); first | refine WL.step rfl (StepTo.st1 rfl rfl rfl rfl rfl rfl ?_) | refine WL.step rfl (StepTo.stA rfl rfl rfl rfl rfl rfl rfl ?_) | refine WL.step rfl (StepTo.stR rfl rfl rfl rfl rfl rfl rfl ?_))
    | with_reducible refine WC.block ?_
    | (refine WC.cond rfl (fun hc => ?_) (fun hc => ?_) <;> (try first | (with_reducible replace hc := of_decide_eq_true hc) | (with_reducible replace hc := of_decide_eq_false hc) | (with_reducible replace hc := eqT hc) | (with_reducible replace hc := eqF hc) | (with_reducible replace hc := neT hc) | (with_reducible replace hc := neF hc) | (with_reducible replace hc := noT hc) | (with_reducible replace hc := noF hc)) <;> (try (exfalso; omega))))
  refine WL.step rfl (StepTo.callN [5, 6] (us := [gv g.c A n k B m l, .int .u32 x]) rfl rfl rfl rfl rfl (by kernel_rfl) (fun w hw => uq w (hw.lst 5 (ic_len .u32) (by omega) rfl) (hw.lst 6 (ic_len .u32) (by omega) rfl) (nearV.vs 5 rfl (by simp)) (nearV.vs 6 rfl (by simp))) ?_)
  rintro v N ⟨A2, n2, k2, B2, m2, l2, rfl, oA2, oB2, hn2, hm2, hk2, hl2, rfl⟩
  obtain rfl : n2 = n1 := hn2.trans hn1.symm
  obtain rfl : m2 = m1 := hm2.trans hm1.symm
  dsimp only
  have hz := (x - 1) % 4294967296
  repeat' (first
    | refine goS ?_
    | ((with_reducible refine WL.isN_bin ?_); first | refine WL.yld rfl binQ ?_)
    | ((with_reducible refine WK.isN_bin ?_); first | refine WK.yld rfl binQ ?_)
    | ((with_reducible refine WL.isN_load ?_); first | refine WL.yld rfl loadQ ?_)
    | ((with_reducible refine WK.isN_load ?_); first | refine WK.yld rfl loadQ ?_)
    | ((with_reducible refine WL.isN_call ?_); first | refine WK.step rfl (Qui.call (v := gv g'.c A1 n2 k1 B1 m2 l1) (us := [gv g'.c A1 n2 k1 B1 m2 l1]) rfl rfl rfl (by kernel_rfl) (fun w _ => as_q g'.c A1 n2 k1 B1 m2 l1 w)) ?_ | refine WK.step rfl (Qui.call (v := gv g.c A n k B m l) (us := [gv g.c A n k B m l]) rfl rfl rfl (by kernel_rfl) (fun w _ => as_q g.c A n k B m l w)) ?_ | refine WK.step rfl (Qui.call (v := gv ((x - 1) % 4294967296) none 0 0 none 0 0) (us := [.int .u32 x]) rfl rfl rfl (by kernel_rfl) (fun w _ => new_q x w)) ?_ | refine WK.step rfl (Qui.call (v := gv ((x - 1) % 4294967296) none 0 0 none 0 0) (us := [.int .u32 x]) rfl rfl rfl (by kernel_rfl) (fun w _ => rnew_q x w)) ?_ | refine WK.step rfl (Qui.call (v := gv ((x - 1) % 4294967296) none 0 0 none 0 0) (us := [gv ((x - 1) % 4294967296) none 0 0 none 0 0]) rfl rfl rfl (by kernel_rfl) (fun w _ => as_q _ none 0 0 none 0 0 w)) ?_ | refine WK.step rfl (Qui.call (v := .bool true) (us := [gv g'.c A1 n2 k1 B1 m2 l1, gv g'.c A2 n2 k2 B2 m2 l2]) rfl rfl rfl (by kernel_rfl) (fun w hw => same_q g'.c A1 n2 k1 B1 m2 l1 A2 k2 B2 l2 (Gt.ab g'.c g'.D) g'.du w (hw.lst 4 (ic_len .u32) (by omega) rfl) (hw.lst 5 (ic_len .u32) (by omega) rfl) (hw.lst 1 (ic_len .u32) (by omega) rfl) (hw.lst 2 (ic_len .u32) (by omega) rfl) (by omega) (by omega))) ?_ | refine WK.step rfl (Qui.call (v := .bool hb) (us := [gv g.c A n k B m l, .int .u32 x]) rfl rfl rfl (by kernel_rfl) (fun w hw => hq1 w (hw.lst 8 (ic_len .u32) (by omega) rfl))) ?_ | refine WK.step rfl (Qui.call (v := .bool hb) (us := [gv g.c A n k B m l, .int .u32 x]) rfl rfl rfl (by kernel_rfl) (fun w hw => hq2 w (hw.lst 8 (ic_len .u32) (by omega) rfl))) ?_ | refine WK.step rfl (Qui.call (v := .bool true) (us := [gv ((x - 1) % 4294967296) none 0 0 none 0 0, gv ((x - 1) % 4294967296) none 0 0 none 0 0]) rfl rfl rfl (by kernel_rfl) (fun w hw => same_q _ none 0 0 none 0 0 none 0 none 0 [] [] w (hw.lst 7 (ic_len .u32) (by omega) rfl) (hw.lst 7 (ic_len .u32) (by omega) rfl) (hw.lst 7 (ic_len .u32) (by omega) rfl) (hw.lst 7 (ic_len .u32) (by omega) rfl) (by omega) (by omega))) ?_ | refine WL.yld rfl lenQ ?_)
    | ((with_reducible refine WK.isN_call ?_); first | refine WK.step rfl (Qui.call (v := gv g'.c A1 n2 k1 B1 m2 l1) (us := [gv g'.c A1 n2 k1 B1 m2 l1]) rfl rfl rfl (by kernel_rfl) (fun w _ => as_q g'.c A1 n2 k1 B1 m2 l1 w)) ?_ | refine WK.step rfl (Qui.call (v := gv g.c A n k B m l) (us := [gv g.c A n k B m l]) rfl rfl rfl (by kernel_rfl) (fun w _ => as_q g.c A n k B m l w)) ?_ | refine WK.step rfl (Qui.call (v := gv ((x - 1) % 4294967296) none 0 0 none 0 0) (us := [.int .u32 x]) rfl rfl rfl (by kernel_rfl) (fun w _ => new_q x w)) ?_ | refine WK.step rfl (Qui.call (v := gv ((x - 1) % 4294967296) none 0 0 none 0 0) (us := [.int .u32 x]) rfl rfl rfl (by kernel_rfl) (fun w _ => rnew_q x w)) ?_ | refine WK.step rfl (Qui.call (v := gv ((x - 1) % 4294967296) none 0 0 none 0 0) (us := [gv ((x - 1) % 4294967296) none 0 0 none 0 0]) rfl rfl rfl (by kernel_rfl) (fun w _ => as_q _ none 0 0 none 0 0 w)) ?_ | refine WK.step rfl (Qui.call (v := .bool true) (us := [gv g'.c A1 n2 k1 B1 m2 l1, gv g'.c A2 n2 k2 B2 m2 l2]) rfl rfl rfl (by kernel_rfl) (fun w hw => same_q g'.c A1 n2 k1 B1 m2 l1 A2 k2 B2 l2 (Gt.ab g'.c g'.D) g'.du w (hw.lst 4 (ic_len .u32) (by omega) rfl) (hw.lst 5 (ic_len .u32) (by omega) rfl) (hw.lst 1 (ic_len .u32) (by omega) rfl) (hw.lst 2 (ic_len .u32) (by omega) rfl) (by omega) (by omega))) ?_ | refine WK.step rfl (Qui.call (v := .bool hb) (us := [gv g.c A n k B m l, .int .u32 x]) rfl rfl rfl (by kernel_rfl) (fun w hw => hq1 w (hw.lst 8 (ic_len .u32) (by omega) rfl))) ?_ | refine WK.step rfl (Qui.call (v := .bool hb) (us := [gv g.c A n k B m l, .int .u32 x]) rfl rfl rfl (by kernel_rfl) (fun w hw => hq2 w (hw.lst 8 (ic_len .u32) (by omega) rfl))) ?_ | refine WK.step rfl (Qui.call (v := .bool true) (us := [gv ((x - 1) % 4294967296) none 0 0 none 0 0, gv ((x - 1) % 4294967296) none 0 0 none 0 0]) rfl rfl rfl (by kernel_rfl) (fun w hw => same_q _ none 0 0 none 0 0 none 0 none 0 [] [] w (hw.lst 7 (ic_len .u32) (by omega) rfl) (hw.lst 7 (ic_len .u32) (by omega) rfl) (hw.lst 7 (ic_len .u32) (by omega) rfl) (hw.lst 7 (ic_len .u32) (by omega) rfl) (by omega) (by omega))) ?_ | refine WK.yld rfl lenQ ?_)
    | ((with_reducible refine WL.isN_box ?_); first | refine WL.step rfl (StepTo.boxA rfl rfl rfl rfl (fun _ => ?_)) | refine WL.step rfl (StepTo.box1 rfl rfl rfl rfl rfl (fun _ => ?_)))
    | ((with_reducible refine WL.isN_alloc ?_); first | refine WL.step rfl (StepTo.allocA rfl rfl rfl rfl (fun _ => ?_)) | refine WL.step rfl (StepTo.alloc1 rfl rfl rfl rfl rfl (fun _ => ?_)))
    | ((with_reducible refine WL.isN_store ?_); first | refine WL.step rfl (StepTo.st1 rfl rfl rfl rfl rfl rfl ?_) | refine WL.step rfl (StepTo.stA rfl rfl rfl rfl rfl rfl rfl ?_) | refine WL.step rfl (StepTo.stR rfl rfl rfl rfl rfl rfl rfl ?_))
    | with_reducible refine WC.block ?_
    | (refine WC.quiet (i := 7) (by kernel_rfl) (by kernel_rfl) ?_)
    | (refine WC.cond rfl (fun hc => ?_) (fun hc => ?_) <;> (try first | (with_reducible replace hc := of_decide_eq_true hc) | (with_reducible replace hc := of_decide_eq_false hc) | (with_reducible replace hc := eqT hc) | (with_reducible replace hc := eqF hc) | (with_reducible replace hc := neT hc) | (with_reducible replace hc := neF hc) | (with_reducible replace hc := noT hc) | (with_reducible replace hc := noF hc)) <;> (try (exfalso; omega))))
  exact WQ.body (Reads.tmp rfl rfl) fun w' hw' => ⟨rfl, hw'.ext.below⟩
end Go.Proofs.Ythbhjnmkbmmcnaa
