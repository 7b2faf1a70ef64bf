/- The law FragPuts. -/
import Derived.Test.YtaopomedbbcgcaaFrY
import Derived.Test.YtaopomedbbcgcaaFrS
namespace Go.Proofs.Ytaopomedbbcgcaa
open Go.RowKit Go.IntWalk
set_option linter.unusedVariables false
set_option linter.unusedSimpArgs false
set_option linter.unusedSectionVars false
set_option maxRecDepth 100000

set_option maxHeartbeats 4000000 in
theorem same_q (A B : Option Addr) (n c d : Nat) (l : List Fr.Fp) (w : World) (hL : Ps w w.heap.size A n l) (hM : Ps w w.heap.size B n l) (hn : n ≤ 1000000) :
    Calls Try.prog 20 #[.agg #[.slice A n c], .agg #[.slice B n d]] w fun e w' => e = .returned (.bool true) ∧ Below w.heap.size w w' := by
  have hl := hL.len
  refine enterW (fun _ => False) _ Try.func20 rfl (by simp only [Try.ntmps20, List.length_cons, List.length_nil, Nat.reduceAdd, Nat.reduceSub]; rfl) ?_
  refine WC.addVw Fr.Fp.cs_len hM ?_
  refine WC.addVw Fr.Fp.cs_len hL ?_
  repeat' (first
    | refine goS ?_
    | ((with_reducible refine WL.isN_bin ?_); first | refine WL.yld rfl binQ ?_)
    | ((with_reducible refine WL.isN_load ?_); first | refine WL.yld rfl loadQ ?_)
    | ((with_reducible refine WL.isN_iaddr ?_); first | refine WL.yld rfl iaddrQ ?_)
    | ((with_reducible refine WL.isN_call ?_); first | refine WL.yld rfl lenQ ?_)
    | ((with_reducible refine WL.isN_box ?_); first | refine WL.step rfl (StepTo.boxA rfl rfl rfl rfl (fun _ => ?_)) | refine WL.step rfl (StepTo.box1 rfl rfl rfl rfl rfl (fun _ => ?_)))
    | with_reducible refine WC.block ?_
    | (refine WC.cond rfl (fun hc => ?_) (fun hc => ?_) <;> (try first | (with_reducible replace hc := of_decide_eq_true hc) | (with_reducible replace hc := of_decide_eq_false hc) | (with_reducible replace hc := eqT hc) | (with_reducible replace hc := eqF hc) | (with_reducible replace hc := neT hc) | (with_reducible replace hc := neF hc) | (with_reducible replace hc := noT hc) | (with_reducible replace hc := noF hc)) <;> (try (exfalso; omega))))
  rename_i b2 b3
  refine WC.loop (fun mm τ H => ∃ i : Nat, i ≤ n ∧ mm = n - i ∧
      τ = [(2, .pointer (some ⟨b2, 0, none⟩)), (3, .pointer (some ⟨b3, 0, none⟩)), (5, .int .i64 (i : Nat))] ∧
      H = [.box b3 48 [.slice B n d], .box b2 36 [.slice A n c], .vw A n 8 (flat Fr.Fp.cs l), .vw B n 8 (flat Fr.Fp.cs l)]) n _ _ [0, 1, 2, 3] ?_ ?_ ⟨0, by omega, rfl, rfl, rfl⟩ ?_
  · exact (by repeat (first | exact Sub.nil | refine Sub.cons rfl ?_ | refine Sub.consE rfl (int_eq (by omega)) ?_))
  · exact ⟨by decide, rfl⟩
  rintro mm τ H ⟨i, hi, rfl, rfl, rfl⟩
  by_cases hin : i < n
  case neg =>
    obtain rfl : i = n := by omega
    repeat' (first
    | refine goS ?_
    | ((with_reducible refine WL.isN_bin ?_); first | refine WL.yld rfl binQ ?_)
    | ((with_reducible refine WL.isN_load ?_); first | refine WL.yld rfl loadQ ?_)
    | ((with_reducible refine WL.isN_iaddr ?_); first | refine WL.yld rfl iaddrQ ?_)
    | ((with_reducible refine WL.isN_call ?_); first | refine WL.yld rfl lenQ ?_)
    | ((with_reducible refine WL.isN_box ?_); first | refine WL.step rfl (StepTo.boxA rfl rfl rfl rfl (fun _ => ?_)) | refine WL.step rfl (StepTo.box1 rfl rfl rfl rfl rfl (fun _ => ?_)))
    | with_reducible refine WC.block ?_
    | (refine WC.cond rfl (fun hc => ?_) (fun hc => ?_) <;> (try first | (with_reducible replace hc := of_decide_eq_true hc) | (with_reducible replace hc := of_decide_eq_false hc) | (with_reducible replace hc := eqT hc) | (with_reducible replace hc := eqF hc) | (with_reducible replace hc := neT hc) | (with_reducible replace hc := neF hc) | (with_reducible replace hc := noT hc) | (with_reducible replace hc := noF hc)) <;> (try (exfalso; omega))))
    exact WQ.body (Reads.tmp rfl rfl) fun w' hw' => ⟨rfl, hw'.ext.below⟩
  obtain ⟨x, hx1⟩ : ∃ x, l[i]? = some x := ⟨_, List.getElem?_eq_getElem (by omega)⟩
  have hyp : PartAt (flat Fr.Fp.cs l) (i * 8) x.cs := PartAt.flat Fr.Fp.cs_len hx1
  refine WC.vwAt 2 rfl (by omega) fun ba oa hA => ?_
  subst hA
  refine WC.vwAt 3 rfl (by omega) fun bb ob hA => ?_
  subst hA
  repeat' (first
    | refine goS ?_
    | ((with_reducible refine WL.isN_bin ?_); first | refine WL.yld rfl (Yld.neqSame 4 rfl rfl rfl (by kernel_rfl) (by kernel_rfl) rfl rfl (by simp)) ?_ | refine WL.yld rfl binQ ?_)
    | ((with_reducible refine WK.isN_bin ?_); first | refine WK.yld rfl (Yld.neqSame 4 rfl rfl rfl (by kernel_rfl) (by kernel_rfl) rfl rfl (by simp)) ?_ | refine WK.yld rfl binQ ?_)
    | ((with_reducible refine WL.isN_load ?_); first | refine WL.yld rfl loadQ ?_)
    | ((with_reducible refine WK.isN_load ?_); first | refine WK.yld rfl loadQ ?_)
    | ((with_reducible refine WL.isN_iaddr ?_); first | refine WL.yld rfl (Yld.indexS i rfl rfl rfl rfl rfl rfl hin) ?_ | refine WL.yld rfl iaddrQ ?_)
    | ((with_reducible refine WK.isN_iaddr ?_); first | refine WK.yld rfl (Yld.indexS i rfl rfl rfl rfl rfl rfl hin) ?_ | refine WK.yld rfl iaddrQ ?_)
    | ((with_reducible refine WL.isN_call ?_); first | refine WK.step rfl (Qui.call (v := pcv x) (us := [pcv x]) rfl rfl rfl (by kernel_rfl) (fun w _ => one_q x w)) ?_ | refine WL.yld rfl lenQ ?_)
    | ((with_reducible refine WK.isN_call ?_); first | refine WK.step rfl (Qui.call (v := pcv x) (us := [pcv x]) rfl rfl rfl (by kernel_rfl) (fun w _ => one_q x w)) ?_ | refine WK.yld rfl lenQ ?_)
    | ((with_reducible refine WL.isN_box ?_); first | refine WL.step rfl (StepTo.boxA rfl rfl rfl rfl (fun _ => ?_)) | refine WL.step rfl (StepTo.box1 rfl rfl rfl rfl rfl (fun _ => ?_)))
    | with_reducible refine WC.block ?_
    | (refine WC.quiet (i := 6) (by kernel_rfl) (by kernel_rfl) ?_)
    | (refine WC.cond rfl (fun hc => ?_) (fun hc => ?_) <;> (try first | (with_reducible replace hc := of_decide_eq_true hc) | (with_reducible replace hc := of_decide_eq_false hc) | (with_reducible replace hc := eqT hc) | (with_reducible replace hc := eqF hc) | (with_reducible replace hc := neT hc) | (with_reducible replace hc := neF hc) | (with_reducible replace hc := noT hc) | (with_reducible replace hc := noF hc)) <;> (try (exfalso; omega))))
  exact WQ.rnd (n - (i + 1)) _ _ [0, 1, 2, 3] (by repeat (first | exact Sub.nil | refine Sub.cons rfl ?_ | refine Sub.consE rfl (int_eq (by omega)) ?_)) ⟨by decide, rfl⟩ (by omega) ⟨i + 1, by omega, rfl, rfl, rfl⟩
set_option maxHeartbeats 8000000 in
theorem fragPuts_walk (A : Option Addr) (n c : Nat) (l : List Fr.Fp) (w : World) (hL : Ps w w.heap.size A n l) (hx : ∀ x ∈ l, x.In) :
    Calls Try.prog 8 #[.slice A n c] w fun e w' => e = .returned (.bool true) ∧ Below w.heap.size w w' := by
  have hl := hL.len
  have sq := fun w hL => small_q A n c l w hL
  cases hs : smallB l with
  | false =>
    rw [hs] at sq
    refine enterW (fun _ => False) _ Try.func8 rfl (by simp only [Try.ntmps8, List.length_cons, List.length_nil, Nat.reduceAdd, Nat.reduceSub]; rfl) ?_
    refine WC.addVw Fr.Fp.cs_len hL ?_
    repeat' (first
    | refine goS ?_
    | ((with_reducible refine WL.isN_bin ?_); first | refine WL.yld rfl binQ ?_)
    | ((with_reducible refine WL.isN_load ?_); first | refine WL.yld rfl loadQ ?_)
    | ((with_reducible refine WL.isN_iaddr ?_); first | refine WL.yld rfl iaddrQ ?_)
    | ((with_reducible refine WL.isN_build ?_); first | refine WL.yld rfl buildQ ?_)
    | ((with_reducible refine WL.isN_call ?_); first | refine WL.step rfl (StepTo.callV (v := .bool true) (us := []) rfl rfl rfl rfl rfl (by kernel_rfl) (fun w hw => frshown_q w) ?_) | refine WL.step rfl (StepTo.callV (v := .bool false) (us := [.slice A n c]) rfl rfl rfl rfl rfl (by kernel_rfl) (fun w hw => sq w (hw.lst 0 Fr.Fp.cs_len (by omega) rfl)) ?_) | refine WL.yld rfl lenQ ?_)
    | ((with_reducible refine WL.isN_alloc ?_); first | refine WL.step rfl (StepTo.allocA rfl rfl rfl rfl (fun _ => ?_)) | refine WL.step rfl (StepTo.alloc1 rfl rfl rfl rfl rfl (fun _ => ?_)))
    | ((with_reducible refine WL.isN_store ?_); first | refine WL.step rfl (StepTo.st1 rfl rfl rfl rfl rfl rfl ?_) | refine WL.step rfl (StepTo.stA rfl rfl rfl rfl rfl rfl rfl ?_) | refine WL.step rfl (StepTo.stR rfl rfl rfl rfl rfl rfl rfl ?_))
    | with_reducible refine WC.block ?_
    | (refine WC.cond rfl (fun hc => ?_) (fun hc => ?_) <;> (try first | (with_reducible replace hc := of_decide_eq_true hc) | (with_reducible replace hc := of_decide_eq_false hc) | (with_reducible replace hc := eqT hc) | (with_reducible replace hc := eqF hc) | (with_reducible replace hc := neT hc) | (with_reducible replace hc := neF hc) | (with_reducible replace hc := noT hc) | (with_reducible replace hc := noF hc)) <;> (try (exfalso; omega))))
    exact WQ.body (Reads.tmp rfl rfl) fun w' hw' => ⟨rfl, hw'.ext.below⟩
  | true =>
  rw [hs] at sq
  obtain ⟨hs1, hs2⟩ := smallB_iff.1 hs
  refine enterW (fun _ => False) _ Try.func8 rfl (by simp only [Try.ntmps8, List.length_cons, List.length_nil, Nat.reduceAdd, Nat.reduceSub]; rfl) ?_
  refine WC.addVw Fr.Fp.cs_len hL ?_
  refine WC.nilVw 8 ?_
  refine WC.nilVw 8 ?_
  repeat' (first
    | refine goS ?_
    | ((with_reducible refine WL.isN_bin ?_); first | refine WL.yld rfl binQ ?_)
    | ((with_reducible refine WL.isN_load ?_); first | refine WL.yld rfl loadQ ?_)
    | ((with_reducible refine WL.isN_iaddr ?_); first | refine WL.yld rfl iaddrQ ?_)
    | ((with_reducible refine WL.isN_build ?_); first | refine WL.yld rfl (Yld.build (cells := #[.slice none 0 0]) rfl rfl rfl) ?_ | refine WL.yld rfl buildQ ?_)
    | ((with_reducible refine WL.isN_call ?_); first | refine WL.step rfl (StepTo.callV (v := .bool true) (us := []) rfl rfl rfl rfl rfl (by kernel_rfl) (fun w hw => frshown_q w) ?_) | refine WL.step rfl (StepTo.callV (v := .bool true) (us := [.slice A n c]) rfl rfl rfl rfl rfl (by kernel_rfl) (fun w hw => sq w (hw.lst 2 Fr.Fp.cs_len (by omega) rfl)) ?_) | refine WL.yld rfl lenQ ?_)
    | ((with_reducible refine WL.isN_alloc ?_); first | refine WL.step rfl (StepTo.allocA rfl rfl rfl rfl (fun _ => ?_)) | refine WL.step rfl (StepTo.alloc1 rfl rfl rfl rfl rfl (fun _ => ?_)))
    | ((with_reducible refine WL.isN_store ?_); first | refine WL.step rfl (StepTo.st1 rfl rfl rfl rfl rfl rfl ?_) | refine WL.step rfl (StepTo.stA rfl rfl rfl rfl rfl rfl rfl ?_) | refine WL.step rfl (StepTo.stR rfl rfl rfl rfl rfl rfl rfl ?_))
    | with_reducible refine WC.block ?_
    | (refine WC.cond rfl (fun hc => ?_) (fun hc => ?_) <;> (try first | (with_reducible replace hc := of_decide_eq_true hc) | (with_reducible replace hc := of_decide_eq_false hc) | (with_reducible replace hc := eqT hc) | (with_reducible replace hc := eqF hc) | (with_reducible replace hc := neT hc) | (with_reducible replace hc := neF hc) | (with_reducible replace hc := noT hc) | (with_reducible replace hc := noF hc)) <;> (try (exfalso; omega))))
  rename_i bB bQ
  refine WC.loop (fun mm τ H => ∃ (i : Nat) (A1 A2 : Option Addr) (n1 c1 c2 : Nat) (b : List Fr.Fp), i ≤ n ∧ mm = n - i ∧ okA A1 n1 ∧ okA A2 n1 ∧ b.length = n1 ∧ n1 ≤ i ∧ Fr.Good b ∧ (∀ x ∈ b, x.tx.length ≤ 1000) ∧
      τ = [(0, .slice A n c), (5, .pointer (some ⟨bB, 0, none⟩)), (6, .pointer (some ⟨bQ, 0, none⟩)), (7, .int .i64 (i : Nat))] ∧
      H = [.box bQ 48 [.slice A2 n1 c2], .vw A2 n1 8 (flat Fr.Fp.cs b), .box bB 36 [.slice A1 n1 c1], .vw A1 n1 8 (flat Fr.Fp.cs b), .vw A n 8 (flat Fr.Fp.cs l)]) n _ _ [0, 2, 1, 3, 4] ?_ ?_ ⟨0, none, none, 0, 0, 0, [], by omega, rfl, okA_nil, okA_nil, rfl, by omega, Fr.Good.nil, by simp, rfl, rfl⟩ ?_
  · exact (by repeat (first | exact Sub.nil | refine Sub.cons rfl ?_ | refine Sub.consE rfl (int_eq (by omega)) ?_))
  · exact ⟨by decide, rfl⟩
  rintro mm τ H ⟨i, A1, A2, n1, c1, c2, b, hi, rfl, hA1, hA2, hbl, hn1, hgb, hbx, rfl, rfl⟩
  by_cases hin : i < n
  case neg =>
    obtain rfl : i = n := by omega
    repeat' (first
    | refine goS ?_
    | ((with_reducible refine WL.isN_bin ?_); first | refine WL.yld rfl binQ ?_)
    | ((with_reducible refine WL.isN_load ?_); first | refine WL.yld rfl loadQ ?_)
    | ((with_reducible refine WL.isN_iaddr ?_); first | refine WL.yld rfl iaddrQ ?_)
    | ((with_reducible refine WL.isN_build ?_); first | refine WL.yld rfl buildQ ?_)
    | ((with_reducible refine WL.isN_call ?_); first | refine WL.yld rfl lenQ ?_)
    | ((with_reducible refine WL.isN_alloc ?_); first | refine WL.step rfl (StepTo.allocA rfl rfl rfl rfl (fun _ => ?_)) | refine WL.step rfl (StepTo.alloc1 rfl rfl rfl rfl rfl (fun _ => ?_)))
    | ((with_reducible refine WL.isN_store ?_); first | refine WL.step rfl (StepTo.st1 rfl rfl rfl rfl rfl rfl ?_) | refine WL.step rfl (StepTo.stA rfl rfl rfl rfl rfl rfl rfl ?_) | refine WL.step rfl (StepTo.stR rfl rfl rfl rfl rfl rfl rfl ?_))
    | with_reducible refine WC.block ?_
    | (refine WC.cond rfl (fun hc => ?_) (fun hc => ?_) <;> (try first | (with_reducible replace hc := of_decide_eq_true hc) | (with_reducible replace hc := of_decide_eq_false hc) | (with_reducible replace hc := eqT hc) | (with_reducible replace hc := eqF hc) | (with_reducible replace hc := neT hc) | (with_reducible replace hc := neF hc) | (with_reducible replace hc := noT hc) | (with_reducible replace hc := noF hc)) <;> (try (exfalso; omega))))
    exact WQ.body (Reads.tmp rfl rfl) fun w' hw' => ⟨rfl, hw'.ext.below⟩
  obtain ⟨x, hx1⟩ : ∃ x, l[i]? = some x := ⟨_, List.getElem?_eq_getElem (by omega)⟩
  have hxl := hs2 x (List.mem_of_getElem? hx1)
  have hxt := (hx x (List.mem_of_getElem? hx1)).tsn
  have hyp : PartAt (flat Fr.Fp.cs l) (i * 8) x.cs := PartAt.flat Fr.Fp.cs_len hx1
  refine WC.vwAt 4 rfl (by omega) fun bl off hA => ?_
  subst hA
  have hP := Fr.put_puts (p := x) hgb hxt (by omega)
  have cp := fun w {V : Nat → Prop} (hL : Ps w w.heap.size A1 n1 b) (hV : nearV w V A1 n1) => put_w A1 n1 c1 b x w hL hA1 hgb (by omega) (fun x hx => by have := hbx x hx; omega) hxt (by omega) hV
  have cr := fun w {V : Nat → Prop} (hL : Ps w w.heap.size A2 n1 b) (hV : nearV w V A2 n1) => rput_w A2 n1 c2 b x w hL hA2 hgb (by omega) (fun x hx => by have := hbx x hx; omega) hxt (by omega) hV
  obtain ⟨⟨b', m, y⟩, hput⟩ : ∃ r, Fr.put b x = r := ⟨_, rfl⟩
  simp only [hput] at cp cr hP
  have hbx' : ∀ x ∈ b', x.tx.length ≤ 1000 := fun z hz => by
    rcases List.mem_append.1 (hP.sub z hz) with h | h
    · exact hbx z h
    · rw [List.mem_singleton.1 h]; exact hxl
  have hln := hP.len
  have hgb' := hP.good
  clear hP hput
  repeat' (first
    | refine goS ?_
    | ((with_reducible refine WL.isN_bin ?_); first | refine WL.yld rfl binQ ?_)
    | ((with_reducible refine WL.isN_load ?_); first | refine WL.yld rfl loadQ ?_)
    | ((with_reducible refine WL.isN_iaddr ?_); first | refine WL.yld rfl iaddrQ ?_)
    | ((with_reducible refine WL.isN_build ?_); first | refine WL.yld rfl buildQ ?_)
    | ((with_reducible refine WL.isN_call ?_); first | refine WL.yld rfl lenQ ?_)
    | ((with_reducible refine WL.isN_alloc ?_); first | refine WL.step rfl (StepTo.allocA rfl rfl rfl rfl (fun _ => ?_)) | refine WL.step rfl (StepTo.alloc1 rfl rfl rfl rfl rfl (fun _ => ?_)))
    | ((with_reducible refine WL.isN_store ?_); first | refine WL.step rfl (StepTo.st1 rfl rfl rfl rfl rfl rfl ?_) | refine WL.step rfl (StepTo.stA rfl rfl rfl rfl rfl rfl rfl ?_) | refine WL.step rfl (StepTo.stR rfl rfl rfl rfl rfl rfl rfl ?_))
    | with_reducible refine WC.block ?_
    | (refine WC.cond rfl (fun hc => ?_) (fun hc => ?_) <;> (try first | (with_reducible replace hc := of_decide_eq_true hc) | (with_reducible replace hc := of_decide_eq_false hc) | (with_reducible replace hc := eqT hc) | (with_reducible replace hc := eqF hc) | (with_reducible replace hc := neT hc) | (with_reducible replace hc := neF hc) | (with_reducible replace hc := noT hc) | (with_reducible replace hc := noF hc)) <;> (try (exfalso; omega))))
  refine WC.cut (fun τ H => ∃ (A3 : Option Addr) (n3 c3 b8 b9 : Nat), okA A3 n3 ∧ n3 = b'.length ∧ τ = [(0, .slice (some ⟨bl, off, none⟩) n c), (5, .pointer (some ⟨bB, 0, none⟩)), (6, .pointer (some ⟨bQ, 0, none⟩)), (7, .int .i64 (i : Nat)), (8, .pointer (some ⟨b8, 0, none⟩)), (9, .pointer (some ⟨b9, 0, none⟩)), (10, .bool y)] ∧
      H = [.box b8 36 [.slice A3 n3 c3], .box b9 38 m.cs, .vw A3 n3 8 (flat Fr.Fp.cs b'), .box bB 36 [.slice A1 n1 c1], .box bQ 48 [.slice A2 n1 c2], .vw A2 n1 8 (flat Fr.Fp.cs b), .vw (some ⟨bl, off, none⟩) n 8 (flat Fr.Fp.cs l)]) ?_ ?_
  refine WC.anyI [2, 4] (by kernel_rfl) ?_
  refine WA.take (idx := [2, 4]) 0 rfl (by kernel_rfl) (by kernel_rfl) (by kernel_rfl) rfl ⟨by decide, rfl⟩ (by first | exact Yld.load rfl rfl rfl rfl cellQ | exact Yld.loadAgg rfl rfl rfl rfl rfl aggQ) ?_
  refine WA.take (idx := [2, 4]) 1 rfl (by kernel_rfl) (by kernel_rfl) (by kernel_rfl) rfl ⟨by decide, rfl⟩ (Yld.pure rfl nrmQ) ?_
  refine WA.take (idx := [2, 4]) 2 rfl (by kernel_rfl) (by kernel_rfl) (by kernel_rfl) rfl ⟨by decide, rfl⟩ (Yld.pure rfl nrmQ) ?_
  refine WA.take (idx := [2, 4]) 3 rfl (by kernel_rfl) (by kernel_rfl) (by kernel_rfl) rfl ⟨by decide, rfl⟩ (by first | exact Yld.indexS i rfl rfl rfl rfl rfl rfl hin | exact Yld.indexS 0 rfl rfl rfl rfl rfl rfl (by omega) | exact Yld.indexS 1 rfl rfl rfl rfl rfl rfl (by omega) | exact Yld.indexS 2 rfl rfl rfl rfl rfl rfl (by omega) | exact Yld.indexS _ rfl rfl rfl rfl rfl rfl (by omega) | exact Yld.indexA 0 rfl rfl rfl rfl rfl rfl (by omega) | exact Yld.indexA 1 rfl rfl rfl rfl rfl rfl (by omega) | exact Yld.indexA _ rfl rfl rfl rfl rfl rfl (by omega)) ?_
  refine WA.take (idx := [2, 4]) 4 rfl (by kernel_rfl) (by kernel_rfl) (by kernel_rfl) rfl ⟨by decide, rfl⟩ (by first | exact Yld.load rfl rfl rfl rfl cellQ | exact Yld.loadAgg rfl rfl rfl rfl rfl aggQ) ?_
  refine WA.three 5 10 11 (by kernel_rfl) rfl rfl rfl rfl rfl rfl ?_ ?_ ?_
  · refine StepTo.callN [3] (us := [.agg #[.slice A1 n1 c1], pcv x]) rfl rfl rfl rfl rfl (by kernel_rfl) (fun w hw => cp w (hw.lst 3 Fr.Fp.cs_len (by omega) rfl) (nearV.vs 3 rfl (by simp))) ?_
    rintro v N ⟨A3, n3, c3, rfl, ok3, hn3, rfl⟩
    replace hn3 : n3 = b'.length := hn3
    refine ⟨⟨[3, 5], by decide, rfl⟩, ?_⟩
    refine WA.take (idx := [3, 5]) 6 rfl (by kernel_rfl) (by kernel_rfl) (by kernel_rfl) rfl ⟨by decide, rfl⟩ (Yld.pure rfl nrmQ) ?_
    refine WA.take (idx := [3, 5]) 7 rfl (by kernel_rfl) (by kernel_rfl) (by kernel_rfl) rfl ⟨by decide, rfl⟩ (Yld.pure rfl nrmQ) ?_
    refine WA.take (idx := [3, 5]) 8 rfl (by kernel_rfl) (by kernel_rfl) (by kernel_rfl) rfl ⟨by decide, rfl⟩ (Yld.pure rfl nrmQ) ?_
    refine WA.take (idx := [3, 5]) 9 rfl (by kernel_rfl) (by kernel_rfl) (by kernel_rfl) rfl ⟨by decide, rfl⟩ (Yld.pure rfl nrmQ) ?_
    refine WA.two 10 11 (by kernel_rfl) rfl rfl rfl rfl ?_ ?_
    · first | refine StepTo.allocA rfl rfl rfl rfl (fun _ => ⟨⟨[4, 6], by decide, rfl⟩, ?_⟩) | refine StepTo.alloc1 rfl rfl rfl rfl rfl (fun _ => ⟨⟨[4, 6], by decide, rfl⟩, ?_⟩)
      refine WA.one 11 (by kernel_rfl) rfl rfl ?_
      first | refine StepTo.allocA rfl rfl rfl rfl (fun _ => ⟨⟨[5, 7], by decide, rfl⟩, ?_⟩) | refine StepTo.alloc1 rfl rfl rfl rfl rfl (fun _ => ⟨⟨[5, 7], by decide, rfl⟩, ?_⟩)
      refine WA.one 12 (by kernel_rfl) rfl rfl ?_
      first | refine StepTo.storeA 1 rfl rfl rfl rfl rfl rfl rfl rfl overQ setQ ⟨⟨[5, 7], by decide, rfl⟩, ?_⟩ | refine StepTo.store1 1 rfl rfl rfl rfl rfl rfl rfl overQ setQ ⟨⟨[5, 7], by decide, rfl⟩, ?_⟩
      refine WA.one 13 (by kernel_rfl) rfl rfl ?_
      first | refine StepTo.storeA 0 rfl rfl rfl rfl rfl rfl rfl rfl overQ setQ ⟨⟨[5, 7], by decide, rfl⟩, ?_⟩ | refine StepTo.store1 0 rfl rfl rfl rfl rfl rfl rfl overQ setQ ⟨⟨[5, 7], by decide, rfl⟩, ?_⟩
      refine WA.take (idx := [5, 7]) 14 rfl (by kernel_rfl) (by kernel_rfl) (by kernel_rfl) rfl ⟨by decide, rfl⟩ (Yld.pure rfl nrmQ) ?_
      refine WA.done (by kernel_rfl) ?_
      refine WQ.thenN (WQ.met _ _ [1, 0, 2, 5, 3, 4, 7] (by repeat (first | exact Sub.nil | refine Sub.cons rfl ?_ | refine Sub.consE rfl (int_eq (by omega)) ?_)) ⟨by decide, rfl⟩ ⟨A3, n3, c3, _, _, ok3, hn3, rfl, rfl⟩)
    · first | refine StepTo.allocA rfl rfl rfl rfl (fun _ => ⟨⟨[4, 6], by decide, rfl⟩, ?_⟩) | refine StepTo.alloc1 rfl rfl rfl rfl rfl (fun _ => ⟨⟨[4, 6], by decide, rfl⟩, ?_⟩)
      refine WA.one 10 (by kernel_rfl) rfl rfl ?_
      first | refine StepTo.allocA rfl rfl rfl rfl (fun _ => ⟨⟨[5, 7], by decide, rfl⟩, ?_⟩) | refine StepTo.alloc1 rfl rfl rfl rfl rfl (fun _ => ⟨⟨[5, 7], by decide, rfl⟩, ?_⟩)
      refine WA.one 12 (by kernel_rfl) rfl rfl ?_
      first | refine StepTo.storeA 0 rfl rfl rfl rfl rfl rfl rfl rfl overQ setQ ⟨⟨[5, 7], by decide, rfl⟩, ?_⟩ | refine StepTo.store1 0 rfl rfl rfl rfl rfl rfl rfl overQ setQ ⟨⟨[5, 7], by decide, rfl⟩, ?_⟩
      refine WA.one 13 (by kernel_rfl) rfl rfl ?_
      first | refine StepTo.storeA 1 rfl rfl rfl rfl rfl rfl rfl rfl overQ setQ ⟨⟨[5, 7], by decide, rfl⟩, ?_⟩ | refine StepTo.store1 1 rfl rfl rfl rfl rfl rfl rfl overQ setQ ⟨⟨[5, 7], by decide, rfl⟩, ?_⟩
      refine WA.take (idx := [5, 7]) 14 rfl (by kernel_rfl) (by kernel_rfl) (by kernel_rfl) rfl ⟨by decide, rfl⟩ (Yld.pure rfl nrmQ) ?_
      refine WA.done (by kernel_rfl) ?_
      refine WQ.thenN (WQ.met _ _ [0, 1, 2, 5, 3, 4, 7] (by repeat (first | exact Sub.nil | refine Sub.cons rfl ?_ | refine Sub.consE rfl (int_eq (by omega)) ?_)) ⟨by decide, rfl⟩ ⟨A3, n3, c3, _, _, ok3, hn3, rfl, rfl⟩)
  · first | refine StepTo.allocA rfl rfl rfl rfl (fun _ => ⟨⟨[3, 5], by decide, rfl⟩, ?_⟩) | refine StepTo.alloc1 rfl rfl rfl rfl rfl (fun _ => ⟨⟨[3, 5], by decide, rfl⟩, ?_⟩)
    refine WA.two 5 11 (by kernel_rfl) rfl rfl rfl rfl ?_ ?_
    · refine StepTo.callN [4] (us := [.agg #[.slice A1 n1 c1], pcv x]) rfl rfl rfl rfl rfl (by kernel_rfl) (fun w hw => cp w (hw.lst 4 Fr.Fp.cs_len (by omega) rfl) (nearV.vs 4 rfl (by simp))) ?_
      rintro v N ⟨A3, n3, c3, rfl, ok3, hn3, rfl⟩
      replace hn3 : n3 = b'.length := hn3
      refine ⟨⟨[4, 6], by decide, rfl⟩, ?_⟩
      refine WA.take (idx := [4, 6]) 6 rfl (by kernel_rfl) (by kernel_rfl) (by kernel_rfl) rfl ⟨by decide, rfl⟩ (Yld.pure rfl nrmQ) ?_
      refine WA.take (idx := [4, 6]) 7 rfl (by kernel_rfl) (by kernel_rfl) (by kernel_rfl) rfl ⟨by decide, rfl⟩ (Yld.pure rfl nrmQ) ?_
      refine WA.take (idx := [4, 6]) 8 rfl (by kernel_rfl) (by kernel_rfl) (by kernel_rfl) rfl ⟨by decide, rfl⟩ (Yld.pure rfl nrmQ) ?_
      refine WA.take (idx := [4, 6]) 9 rfl (by kernel_rfl) (by kernel_rfl) (by kernel_rfl) rfl ⟨by decide, rfl⟩ (Yld.pure rfl nrmQ) ?_
      refine WA.one 11 (by kernel_rfl) rfl rfl ?_
      first | refine StepTo.allocA rfl rfl rfl rfl (fun _ => ⟨⟨[5, 7], by decide, rfl⟩, ?_⟩) | refine StepTo.alloc1 rfl rfl rfl rfl rfl (fun _ => ⟨⟨[5, 7], by decide, rfl⟩, ?_⟩)
      refine WA.one 12 (by kernel_rfl) rfl rfl ?_
      first | refine StepTo.storeA 2 rfl rfl rfl rfl rfl rfl rfl rfl overQ setQ ⟨⟨[5, 7], by decide, rfl⟩, ?_⟩ | refine StepTo.store1 2 rfl rfl rfl rfl rfl rfl rfl overQ setQ ⟨⟨[5, 7], by decide, rfl⟩, ?_⟩
      refine WA.one 13 (by kernel_rfl) rfl rfl ?_
      first | refine StepTo.storeA 0 rfl rfl rfl rfl rfl rfl rfl rfl overQ setQ ⟨⟨[5, 7], by decide, rfl⟩, ?_⟩ | refine StepTo.store1 0 rfl rfl rfl rfl rfl rfl rfl overQ setQ ⟨⟨[5, 7], by decide, rfl⟩, ?_⟩
      refine WA.take (idx := [5, 7]) 14 rfl (by kernel_rfl) (by kernel_rfl) (by kernel_rfl) rfl ⟨by decide, rfl⟩ (Yld.pure rfl nrmQ) ?_
      refine WA.done (by kernel_rfl) ?_
      refine WQ.thenN (WQ.met _ _ [2, 0, 1, 5, 3, 4, 7] (by repeat (first | exact Sub.nil | refine Sub.cons rfl ?_ | refine Sub.consE rfl (int_eq (by omega)) ?_)) ⟨by decide, rfl⟩ ⟨A3, n3, c3, _, _, ok3, hn3, rfl, rfl⟩)
    · first | refine StepTo.allocA rfl rfl rfl rfl (fun _ => ⟨⟨[4, 6], by decide, rfl⟩, ?_⟩) | refine StepTo.alloc1 rfl rfl rfl rfl rfl (fun _ => ⟨⟨[4, 6], by decide, rfl⟩, ?_⟩)
      refine WA.one 5 (by kernel_rfl) rfl rfl ?_
      refine StepTo.callN [5] (us := [.agg #[.slice A1 n1 c1], pcv x]) rfl rfl rfl rfl rfl (by kernel_rfl) (fun w hw => cp w (hw.lst 5 Fr.Fp.cs_len (by omega) rfl) (nearV.vs 5 rfl (by simp))) ?_
      rintro v N ⟨A3, n3, c3, rfl, ok3, hn3, rfl⟩
      replace hn3 : n3 = b'.length := hn3
      refine ⟨⟨[5, 7], by decide, rfl⟩, ?_⟩
      refine WA.take (idx := [5, 7]) 6 rfl (by kernel_rfl) (by kernel_rfl) (by kernel_rfl) rfl ⟨by decide, rfl⟩ (Yld.pure rfl nrmQ) ?_
      refine WA.take (idx := [5, 7]) 7 rfl (by kernel_rfl) (by kernel_rfl) (by kernel_rfl) rfl ⟨by decide, rfl⟩ (Yld.pure rfl nrmQ) ?_
      refine WA.take (idx := [5, 7]) 8 rfl (by kernel_rfl) (by kernel_rfl) (by kernel_rfl) rfl ⟨by decide, rfl⟩ (Yld.pure rfl nrmQ) ?_
      refine WA.take (idx := [5, 7]) 9 rfl (by kernel_rfl) (by kernel_rfl) (by kernel_rfl) rfl ⟨by decide, rfl⟩ (Yld.pure rfl nrmQ) ?_
      refine WA.one 12 (by kernel_rfl) rfl rfl ?_
      first | refine StepTo.storeA 2 rfl rfl rfl rfl rfl rfl rfl rfl overQ setQ ⟨⟨[5, 7], by decide, rfl⟩, ?_⟩ | refine StepTo.store1 2 rfl rfl rfl rfl rfl rfl rfl overQ setQ ⟨⟨[5, 7], by decide, rfl⟩, ?_⟩
      refine WA.one 13 (by kernel_rfl) rfl rfl ?_
      first | refine StepTo.storeA 1 rfl rfl rfl rfl rfl rfl rfl rfl overQ setQ ⟨⟨[5, 7], by decide, rfl⟩, ?_⟩ | refine StepTo.store1 1 rfl rfl rfl rfl rfl rfl rfl overQ setQ ⟨⟨[5, 7], by decide, rfl⟩, ?_⟩
      refine WA.take (idx := [5, 7]) 14 rfl (by kernel_rfl) (by kernel_rfl) (by kernel_rfl) rfl ⟨by decide, rfl⟩ (Yld.pure rfl nrmQ) ?_
      refine WA.done (by kernel_rfl) ?_
      refine WQ.thenN (WQ.met _ _ [2, 1, 0, 5, 3, 4, 7] (by repeat (first | exact Sub.nil | refine Sub.cons rfl ?_ | refine Sub.consE rfl (int_eq (by omega)) ?_)) ⟨by decide, rfl⟩ ⟨A3, n3, c3, _, _, ok3, hn3, rfl, rfl⟩)
  · first | refine StepTo.allocA rfl rfl rfl rfl (fun _ => ⟨⟨[3, 5], by decide, rfl⟩, ?_⟩) | refine StepTo.alloc1 rfl rfl rfl rfl rfl (fun _ => ⟨⟨[3, 5], by decide, rfl⟩, ?_⟩)
    refine WA.two 5 10 (by kernel_rfl) rfl rfl rfl rfl ?_ ?_
    · refine StepTo.callN [4] (us := [.agg #[.slice A1 n1 c1], pcv x]) rfl rfl rfl rfl rfl (by kernel_rfl) (fun w hw => cp w (hw.lst 4 Fr.Fp.cs_len (by omega) rfl) (nearV.vs 4 rfl (by simp))) ?_
      rintro v N ⟨A3, n3, c3, rfl, ok3, hn3, rfl⟩
      replace hn3 : n3 = b'.length := hn3
      refine ⟨⟨[4, 6], by decide, rfl⟩, ?_⟩
      refine WA.take (idx := [4, 6]) 6 rfl (by kernel_rfl) (by kernel_rfl) (by kernel_rfl) rfl ⟨by decide, rfl⟩ (Yld.pure rfl nrmQ) ?_
      refine WA.take (idx := [4, 6]) 7 rfl (by kernel_rfl) (by kernel_rfl) (by kernel_rfl) rfl ⟨by decide, rfl⟩ (Yld.pure rfl nrmQ) ?_
      refine WA.take (idx := [4, 6]) 8 rfl (by kernel_rfl) (by kernel_rfl) (by kernel_rfl) rfl ⟨by decide, rfl⟩ (Yld.pure rfl nrmQ) ?_
      refine WA.take (idx := [4, 6]) 9 rfl (by kernel_rfl) (by kernel_rfl) (by kernel_rfl) rfl ⟨by decide, rfl⟩ (Yld.pure rfl nrmQ) ?_
      refine WA.one 10 (by kernel_rfl) rfl rfl ?_
      first | refine StepTo.allocA rfl rfl rfl rfl (fun _ => ⟨⟨[5, 7], by decide, rfl⟩, ?_⟩) | refine StepTo.alloc1 rfl rfl rfl rfl rfl (fun _ => ⟨⟨[5, 7], by decide, rfl⟩, ?_⟩)
      refine WA.one 12 (by kernel_rfl) rfl rfl ?_
      first | refine StepTo.storeA 0 rfl rfl rfl rfl rfl rfl rfl rfl overQ setQ ⟨⟨[5, 7], by decide, rfl⟩, ?_⟩ | refine StepTo.store1 0 rfl rfl rfl rfl rfl rfl rfl overQ setQ ⟨⟨[5, 7], by decide, rfl⟩, ?_⟩
      refine WA.one 13 (by kernel_rfl) rfl rfl ?_
      first | refine StepTo.storeA 2 rfl rfl rfl rfl rfl rfl rfl rfl overQ setQ ⟨⟨[5, 7], by decide, rfl⟩, ?_⟩ | refine StepTo.store1 2 rfl rfl rfl rfl rfl rfl rfl overQ setQ ⟨⟨[5, 7], by decide, rfl⟩, ?_⟩
      refine WA.take (idx := [5, 7]) 14 rfl (by kernel_rfl) (by kernel_rfl) (by kernel_rfl) rfl ⟨by decide, rfl⟩ (Yld.pure rfl nrmQ) ?_
      refine WA.done (by kernel_rfl) ?_
      refine WQ.thenN (WQ.met _ _ [0, 2, 1, 5, 3, 4, 7] (by repeat (first | exact Sub.nil | refine Sub.cons rfl ?_ | refine Sub.consE rfl (int_eq (by omega)) ?_)) ⟨by decide, rfl⟩ ⟨A3, n3, c3, _, _, ok3, hn3, rfl, rfl⟩)
    · first | refine StepTo.allocA rfl rfl rfl rfl (fun _ => ⟨⟨[4, 6], by decide, rfl⟩, ?_⟩) | refine StepTo.alloc1 rfl rfl rfl rfl rfl (fun _ => ⟨⟨[4, 6], by decide, rfl⟩, ?_⟩)
      refine WA.one 5 (by kernel_rfl) rfl rfl ?_
      refine StepTo.callN [5] (us := [.agg #[.slice A1 n1 c1], pcv x]) rfl rfl rfl rfl rfl (by kernel_rfl) (fun w hw => cp w (hw.lst 5 Fr.Fp.cs_len (by omega) rfl) (nearV.vs 5 rfl (by simp))) ?_
      rintro v N ⟨A3, n3, c3, rfl, ok3, hn3, rfl⟩
      replace hn3 : n3 = b'.length := hn3
      refine ⟨⟨[5, 7], by decide, rfl⟩, ?_⟩
      refine WA.take (idx := [5, 7]) 6 rfl (by kernel_rfl) (by kernel_rfl) (by kernel_rfl) rfl ⟨by decide, rfl⟩ (Yld.pure rfl nrmQ) ?_
      refine WA.take (idx := [5, 7]) 7 rfl (by kernel_rfl) (by kernel_rfl) (by kernel_rfl) rfl ⟨by decide, rfl⟩ (Yld.pure rfl nrmQ) ?_
      refine WA.take (idx := [5, 7]) 8 rfl (by kernel_rfl) (by kernel_rfl) (by kernel_rfl) rfl ⟨by decide, rfl⟩ (Yld.pure rfl nrmQ) ?_
      refine WA.take (idx := [5, 7]) 9 rfl (by kernel_rfl) (by kernel_rfl) (by kernel_rfl) rfl ⟨by decide, rfl⟩ (Yld.pure rfl nrmQ) ?_
      refine WA.one 12 (by kernel_rfl) rfl rfl ?_
      first | refine StepTo.storeA 1 rfl rfl rfl rfl rfl rfl rfl rfl overQ setQ ⟨⟨[5, 7], by decide, rfl⟩, ?_⟩ | refine StepTo.store1 1 rfl rfl rfl rfl rfl rfl rfl overQ setQ ⟨⟨[5, 7], by decide, rfl⟩, ?_⟩
      refine WA.one 13 (by kernel_rfl) rfl rfl ?_
      first | refine StepTo.storeA 2 rfl rfl rfl rfl rfl rfl rfl rfl overQ setQ ⟨⟨[5, 7], by decide, rfl⟩, ?_⟩ | refine StepTo.store1 2 rfl rfl rfl rfl rfl rfl rfl overQ setQ ⟨⟨[5, 7], by decide, rfl⟩, ?_⟩
      refine WA.take (idx := [5, 7]) 14 rfl (by kernel_rfl) (by kernel_rfl) (by kernel_rfl) rfl ⟨by decide, rfl⟩ (Yld.pure rfl nrmQ) ?_
      refine WA.done (by kernel_rfl) ?_
      refine WQ.thenN (WQ.met _ _ [1, 2, 0, 5, 3, 4, 7] (by repeat (first | exact Sub.nil | refine Sub.cons rfl ?_ | refine Sub.consE rfl (int_eq (by omega)) ?_)) ⟨by decide, rfl⟩ ⟨A3, n3, c3, _, _, ok3, hn3, rfl, rfl⟩)
  rintro τ H ⟨A3, n3, c3, b8, b9, ok3, hn3, rfl, rfl⟩
  repeat' (first
    | refine goS ?_
    | ((with_reducible refine WL.isN_bin ?_); first | refine WL.yld rfl binQ ?_)
    | ((with_reducible refine WL.isN_load ?_); first | refine WL.yld rfl loadQ ?_)
    | ((with_reducible refine WL.isN_iaddr ?_); first | refine WL.yld rfl iaddrQ ?_)
    | ((with_reducible refine WL.isN_build ?_); first | refine WL.yld rfl buildQ ?_)
    | ((with_reducible refine WL.isN_call ?_); first | refine WL.yld rfl lenQ ?_)
    | ((with_reducible refine WL.isN_alloc ?_); first | refine WL.step rfl (StepTo.allocA rfl rfl rfl rfl (fun _ => ?_)) | refine WL.step rfl (StepTo.alloc1 rfl rfl rfl rfl rfl (fun _ => ?_)))
    | ((with_reducible refine WL.isN_store ?_); first | refine WL.step rfl (StepTo.st1 rfl rfl rfl rfl rfl rfl ?_) | refine WL.step rfl (StepTo.stA rfl rfl rfl rfl rfl rfl rfl ?_) | refine WL.step rfl (StepTo.stR rfl rfl rfl rfl rfl rfl rfl ?_))
    | with_reducible refine WC.block ?_
    | (refine WC.cond rfl (fun hc => ?_) (fun hc => ?_) <;> (try first | (with_reducible replace hc := of_decide_eq_true hc) | (with_reducible replace hc := of_decide_eq_false hc) | (with_reducible replace hc := eqT hc) | (with_reducible replace hc := eqF hc) | (with_reducible replace hc := neT hc) | (with_reducible replace hc := neF hc) | (with_reducible replace hc := noT hc) | (with_reducible replace hc := noF hc)) <;> (try (exfalso; omega))))
  refine WC.cut (fun τ H => ∃ (A4 : Option Addr) (c4 b11 b12 : Nat), okA A4 n3 ∧ τ = [(0, .slice (some ⟨bl, off, none⟩) n c), (5, .pointer (some ⟨bB, 0, none⟩)), (6, .pointer (some ⟨bQ, 0, none⟩)), (7, .int .i64 (i : Nat)), (8, .pointer (some ⟨b8, 0, none⟩)), (9, .pointer (some ⟨b9, 0, none⟩)), (10, .bool y), (11, .pointer (some ⟨b11, 0, none⟩)), (12, .pointer (some ⟨b12, 0, none⟩)), (13, .bool y)] ∧
      H = [.box b11 48 [.slice A4 n3 c4], .box b12 49 m.cs, .vw A4 n3 8 (flat Fr.Fp.cs b'), .box b8 36 [.slice A3 n3 c3], .box b9 38 m.cs, .vw A3 n3 8 (flat Fr.Fp.cs b'), .box bB 36 [.slice A1 n1 c1], .box bQ 48 [.slice A2 n1 c2], .vw (some ⟨bl, off, none⟩) n 8 (flat Fr.Fp.cs l)]) ?_ ?_
  refine WC.anyI [4, 6] (by kernel_rfl) ?_
  refine WA.take (idx := [4, 6]) 0 rfl (by kernel_rfl) (by kernel_rfl) (by kernel_rfl) rfl ⟨by decide, rfl⟩ (by first | exact Yld.load rfl rfl rfl rfl cellQ | exact Yld.loadAgg rfl rfl rfl rfl rfl aggQ) ?_
  refine WA.take (idx := [4, 6]) 1 rfl (by kernel_rfl) (by kernel_rfl) (by kernel_rfl) rfl ⟨by decide, rfl⟩ (Yld.pure rfl nrmQ) ?_
  refine WA.take (idx := [4, 6]) 2 rfl (by kernel_rfl) (by kernel_rfl) (by kernel_rfl) rfl ⟨by decide, rfl⟩ (Yld.pure rfl nrmQ) ?_
  refine WA.take (idx := [4, 6]) 3 rfl (by kernel_rfl) (by kernel_rfl) (by kernel_rfl) rfl ⟨by decide, rfl⟩ (by first | exact Yld.indexS i rfl rfl rfl rfl rfl rfl hin | exact Yld.indexS 0 rfl rfl rfl rfl rfl rfl (by omega) | exact Yld.indexS 1 rfl rfl rfl rfl rfl rfl (by omega) | exact Yld.indexS 2 rfl rfl rfl rfl rfl rfl (by omega) | exact Yld.indexS _ rfl rfl rfl rfl rfl rfl (by omega) | exact Yld.indexA 0 rfl rfl rfl rfl rfl rfl (by omega) | exact Yld.indexA 1 rfl rfl rfl rfl rfl rfl (by omega) | exact Yld.indexA _ rfl rfl rfl rfl rfl rfl (by omega)) ?_
  refine WA.take (idx := [4, 6]) 4 rfl (by kernel_rfl) (by kernel_rfl) (by kernel_rfl) rfl ⟨by decide, rfl⟩ (by first | exact Yld.load rfl rfl rfl rfl cellQ | exact Yld.loadAgg rfl rfl rfl rfl rfl aggQ) ?_
  refine WA.three 5 11 12 (by kernel_rfl) rfl rfl rfl rfl rfl rfl ?_ ?_ ?_
  · refine StepTo.callV (us := [pcv x]) rfl rfl rfl rfl rfl (by kernel_rfl) (fun w _ => one_q x w) ⟨⟨[4, 6], by decide, rfl⟩, ?_⟩
    refine WA.three 6 11 12 (by kernel_rfl) rfl rfl rfl rfl rfl rfl ?_ ?_ ?_
    · refine StepTo.callN [5] (us := [.agg #[.slice A2 n1 c2], pcv x]) rfl rfl rfl rfl rfl (by kernel_rfl) (fun w hw => cr w (hw.lst 5 Fr.Fp.cs_len (by omega) rfl) (nearV.vs 5 rfl (by simp))) ?_
      rintro v N ⟨A4, n4, c4, rfl, ok4, hn4, rfl⟩
      obtain rfl : n4 = n3 := hn4.trans hn3.symm
      refine ⟨⟨[5, 7], by decide, rfl⟩, ?_⟩
      refine WA.take (idx := [5, 7]) 7 rfl (by kernel_rfl) (by kernel_rfl) (by kernel_rfl) rfl ⟨by decide, rfl⟩ (Yld.pure rfl nrmQ) ?_
      refine WA.take (idx := [5, 7]) 8 rfl (by kernel_rfl) (by kernel_rfl) (by kernel_rfl) rfl ⟨by decide, rfl⟩ (Yld.pure rfl nrmQ) ?_
      refine WA.take (idx := [5, 7]) 9 rfl (by kernel_rfl) (by kernel_rfl) (by kernel_rfl) rfl ⟨by decide, rfl⟩ (Yld.pure rfl nrmQ) ?_
      refine WA.take (idx := [5, 7]) 10 rfl (by kernel_rfl) (by kernel_rfl) (by kernel_rfl) rfl ⟨by decide, rfl⟩ (Yld.pure rfl nrmQ) ?_
      refine WA.two 11 12 (by kernel_rfl) rfl rfl rfl rfl ?_ ?_
      · first | refine StepTo.allocA rfl rfl rfl rfl (fun _ => ⟨⟨[6, 8], by decide, rfl⟩, ?_⟩) | refine StepTo.alloc1 rfl rfl rfl rfl rfl (fun _ => ⟨⟨[6, 8], by decide, rfl⟩, ?_⟩)
        refine WA.one 12 (by kernel_rfl) rfl rfl ?_
        first | refine StepTo.allocA rfl rfl rfl rfl (fun _ => ⟨⟨[7, 9], by decide, rfl⟩, ?_⟩) | refine StepTo.alloc1 rfl rfl rfl rfl rfl (fun _ => ⟨⟨[7, 9], by decide, rfl⟩, ?_⟩)
        refine WA.one 13 (by kernel_rfl) rfl rfl ?_
        first | refine StepTo.storeA 1 rfl rfl rfl rfl rfl rfl rfl rfl overQ setQ ⟨⟨[7, 9], by decide, rfl⟩, ?_⟩ | refine StepTo.store1 1 rfl rfl rfl rfl rfl rfl rfl overQ setQ ⟨⟨[7, 9], by decide, rfl⟩, ?_⟩
        refine WA.one 14 (by kernel_rfl) rfl rfl ?_
        first | refine StepTo.storeA 0 rfl rfl rfl rfl rfl rfl rfl rfl overQ setQ ⟨⟨[7, 9], by decide, rfl⟩, ?_⟩ | refine StepTo.store1 0 rfl rfl rfl rfl rfl rfl rfl overQ setQ ⟨⟨[7, 9], by decide, rfl⟩, ?_⟩
        refine WA.take (idx := [7, 9]) 15 rfl (by kernel_rfl) (by kernel_rfl) (by kernel_rfl) rfl ⟨by decide, rfl⟩ (Yld.pure rfl nrmQ) ?_
        refine WA.done (by kernel_rfl) ?_
        refine WQ.thenN (WQ.met _ _ [1, 0, 2, 3, 4, 5, 6, 7, 9] (by repeat (first | exact Sub.nil | refine Sub.cons rfl ?_ | refine Sub.consE rfl (int_eq (by omega)) ?_)) ⟨by decide, rfl⟩ ⟨A4, c4, _, _, ok4, rfl, rfl⟩)
      · first | refine StepTo.allocA rfl rfl rfl rfl (fun _ => ⟨⟨[6, 8], by decide, rfl⟩, ?_⟩) | refine StepTo.alloc1 rfl rfl rfl rfl rfl (fun _ => ⟨⟨[6, 8], by decide, rfl⟩, ?_⟩)
        refine WA.one 11 (by kernel_rfl) rfl rfl ?_
        first | refine StepTo.allocA rfl rfl rfl rfl (fun _ => ⟨⟨[7, 9], by decide, rfl⟩, ?_⟩) | refine StepTo.alloc1 rfl rfl rfl rfl rfl (fun _ => ⟨⟨[7, 9], by decide, rfl⟩, ?_⟩)
        refine WA.one 13 (by kernel_rfl) rfl rfl ?_
        first | refine StepTo.storeA 0 rfl rfl rfl rfl rfl rfl rfl rfl overQ setQ ⟨⟨[7, 9], by decide, rfl⟩, ?_⟩ | refine StepTo.store1 0 rfl rfl rfl rfl rfl rfl rfl overQ setQ ⟨⟨[7, 9], by decide, rfl⟩, ?_⟩
        refine WA.one 14 (by kernel_rfl) rfl rfl ?_
        first | refine StepTo.storeA 1 rfl rfl rfl rfl rfl rfl rfl rfl overQ setQ ⟨⟨[7, 9], by decide, rfl⟩, ?_⟩ | refine StepTo.store1 1 rfl rfl rfl rfl rfl rfl rfl overQ setQ ⟨⟨[7, 9], by decide, rfl⟩, ?_⟩
        refine WA.take (idx := [7, 9]) 15 rfl (by kernel_rfl) (by kernel_rfl) (by kernel_rfl) rfl ⟨by decide, rfl⟩ (Yld.pure rfl nrmQ) ?_
        refine WA.done (by kernel_rfl) ?_
        refine WQ.thenN (WQ.met _ _ [0, 1, 2, 3, 4, 5, 6, 7, 9] (by repeat (first | exact Sub.nil | refine Sub.cons rfl ?_ | refine Sub.consE rfl (int_eq (by omega)) ?_)) ⟨by decide, rfl⟩ ⟨A4, c4, _, _, ok4, rfl, rfl⟩)
    · first | refine StepTo.allocA rfl rfl rfl rfl (fun _ => ⟨⟨[5, 7], by decide, rfl⟩, ?_⟩) | refine StepTo.alloc1 rfl rfl rfl rfl rfl (fun _ => ⟨⟨[5, 7], by decide, rfl⟩, ?_⟩)
      refine WA.two 6 12 (by kernel_rfl) rfl rfl rfl rfl ?_ ?_
      · refine StepTo.callN [6] (us := [.agg #[.slice A2 n1 c2], pcv x]) rfl rfl rfl rfl rfl (by kernel_rfl) (fun w hw => cr w (hw.lst 6 Fr.Fp.cs_len (by omega) rfl) (nearV.vs 6 rfl (by simp))) ?_
        rintro v N ⟨A4, n4, c4, rfl, ok4, hn4, rfl⟩
        obtain rfl : n4 = n3 := hn4.trans hn3.symm
        refine ⟨⟨[6, 8], by decide, rfl⟩, ?_⟩
        refine WA.take (idx := [6, 8]) 7 rfl (by kernel_rfl) (by kernel_rfl) (by kernel_rfl) rfl ⟨by decide, rfl⟩ (Yld.pure rfl nrmQ) ?_
        refine WA.take (idx := [6, 8]) 8 rfl (by kernel_rfl) (by kernel_rfl) (by kernel_rfl) rfl ⟨by decide, rfl⟩ (Yld.pure rfl nrmQ) ?_
        refine WA.take (idx := [6, 8]) 9 rfl (by kernel_rfl) (by kernel_rfl) (by kernel_rfl) rfl ⟨by decide, rfl⟩ (Yld.pure rfl nrmQ) ?_
        refine WA.take (idx := [6, 8]) 10 rfl (by kernel_rfl) (by kernel_rfl) (by kernel_rfl) rfl ⟨by decide, rfl⟩ (Yld.pure rfl nrmQ) ?_
        refine WA.one 12 (by kernel_rfl) rfl rfl ?_
        first | refine StepTo.allocA rfl rfl rfl rfl (fun _ => ⟨⟨[7, 9], by decide, rfl⟩, ?_⟩) | refine StepTo.alloc1 rfl rfl rfl rfl rfl (fun _ => ⟨⟨[7, 9], by decide, rfl⟩, ?_⟩)
        refine WA.one 13 (by kernel_rfl) rfl rfl ?_
        first | refine StepTo.storeA 2 rfl rfl rfl rfl rfl rfl rfl rfl overQ setQ ⟨⟨[7, 9], by decide, rfl⟩, ?_⟩ | refine StepTo.store1 2 rfl rfl rfl rfl rfl rfl rfl overQ setQ ⟨⟨[7, 9], by decide, rfl⟩, ?_⟩
        refine WA.one 14 (by kernel_rfl) rfl rfl ?_
        first | refine StepTo.storeA 0 rfl rfl rfl rfl rfl rfl rfl rfl overQ setQ ⟨⟨[7, 9], by decide, rfl⟩, ?_⟩ | refine StepTo.store1 0 rfl rfl rfl rfl rfl rfl rfl overQ setQ ⟨⟨[7, 9], by decide, rfl⟩, ?_⟩
        refine WA.take (idx := [7, 9]) 15 rfl (by kernel_rfl) (by kernel_rfl) (by kernel_rfl) rfl ⟨by decide, rfl⟩ (Yld.pure rfl nrmQ) ?_
        refine WA.done (by kernel_rfl) ?_
        refine WQ.thenN (WQ.met _ _ [2, 0, 1, 3, 4, 5, 6, 7, 9] (by repeat (first | exact Sub.nil | refine Sub.cons rfl ?_ | refine Sub.consE rfl (int_eq (by omega)) ?_)) ⟨by decide, rfl⟩ ⟨A4, c4, _, _, ok4, rfl, rfl⟩)
      · first | refine StepTo.allocA rfl rfl rfl rfl (fun _ => ⟨⟨[6, 8], by decide, rfl⟩, ?_⟩) | refine StepTo.alloc1 rfl rfl rfl rfl rfl (fun _ => ⟨⟨[6, 8], by decide, rfl⟩, ?_⟩)
        refine WA.one 6 (by kernel_rfl) rfl rfl ?_
        refine StepTo.callN [7] (us := [.agg #[.slice A2 n1 c2], pcv x]) rfl rfl rfl rfl rfl (by kernel_rfl) (fun w hw => cr w (hw.lst 7 Fr.Fp.cs_len (by omega) rfl) (nearV.vs 7 rfl (by simp))) ?_
        rintro v N ⟨A4, n4, c4, rfl, ok4, hn4, rfl⟩
        obtain rfl : n4 = n3 := hn4.trans hn3.symm
        refine ⟨⟨[7, 9], by decide, rfl⟩, ?_⟩
        refine WA.take (idx := [7, 9]) 7 rfl (by kernel_rfl) (by kernel_rfl) (by kernel_rfl) rfl ⟨by decide, rfl⟩ (Yld.pure rfl nrmQ) ?_
        refine WA.take (idx := [7, 9]) 8 rfl (by kernel_rfl) (by kernel_rfl) (by kernel_rfl) rfl ⟨by decide, rfl⟩ (Yld.pure rfl nrmQ) ?_
        refine WA.take (idx := [7, 9]) 9 rfl (by kernel_rfl) (by kernel_rfl) (by kernel_rfl) rfl ⟨by decide, rfl⟩ (Yld.pure rfl nrmQ) ?_
        refine WA.take (idx := [7, 9]) 10 rfl (by kernel_rfl) (by kernel_rfl) (by kernel_rfl) rfl ⟨by decide, rfl⟩ (Yld.pure rfl nrmQ) ?_
        refine WA.one 13 (by kernel_rfl) rfl rfl ?_
        first | refine StepTo.storeA 2 rfl rfl rfl rfl rfl rfl rfl rfl overQ setQ ⟨⟨[7, 9], by decide, rfl⟩, ?_⟩ | refine StepTo.store1 2 rfl rfl rfl rfl rfl rfl rfl overQ setQ ⟨⟨[7, 9], by decide, rfl⟩, ?_⟩
        refine WA.one 14 (by kernel_rfl) rfl rfl ?_
        first | refine StepTo.storeA 1 rfl rfl rfl rfl rfl rfl rfl rfl overQ setQ ⟨⟨[7, 9], by decide, rfl⟩, ?_⟩ | refine StepTo.store1 1 rfl rfl rfl rfl rfl rfl rfl overQ setQ ⟨⟨[7, 9], by decide, rfl⟩, ?_⟩
        refine WA.take (idx := [7, 9]) 15 rfl (by kernel_rfl) (by kernel_rfl) (by kernel_rfl) rfl ⟨by decide, rfl⟩ (Yld.pure rfl nrmQ) ?_
        refine WA.done (by kernel_rfl) ?_
        refine WQ.thenN (WQ.met _ _ [2, 1, 0, 3, 4, 5, 6, 7, 9] (by repeat (first | exact Sub.nil | refine Sub.cons rfl ?_ | refine Sub.consE rfl (int_eq (by omega)) ?_)) ⟨by decide, rfl⟩ ⟨A4, c4, _, _, ok4, rfl, rfl⟩)
    · first | refine StepTo.allocA rfl rfl rfl rfl (fun _ => ⟨⟨[5, 7], by decide, rfl⟩, ?_⟩) | refine StepTo.alloc1 rfl rfl rfl rfl rfl (fun _ => ⟨⟨[5, 7], by decide, rfl⟩, ?_⟩)
      refine WA.two 6 11 (by kernel_rfl) rfl rfl rfl rfl ?_ ?_
      · refine StepTo.callN [6] (us := [.agg #[.slice A2 n1 c2], pcv x]) rfl rfl rfl rfl rfl (by kernel_rfl) (fun w hw => cr w (hw.lst 6 Fr.Fp.cs_len (by omega) rfl) (nearV.vs 6 rfl (by simp))) ?_
        rintro v N ⟨A4, n4, c4, rfl, ok4, hn4, rfl⟩
        obtain rfl : n4 = n3 := hn4.trans hn3.symm
        refine ⟨⟨[6, 8], by decide, rfl⟩, ?_⟩
        refine WA.take (idx := [6, 8]) 7 rfl (by kernel_rfl) (by kernel_rfl) (by kernel_rfl) rfl ⟨by decide, rfl⟩ (Yld.pure rfl nrmQ) ?_
        refine WA.take (idx := [6, 8]) 8 rfl (by kernel_rfl) (by kernel_rfl) (by kernel_rfl) rfl ⟨by decide, rfl⟩ (Yld.pure rfl nrmQ) ?_
        refine WA.take (idx := [6, 8]) 9 rfl (by kernel_rfl) (by kernel_rfl) (by kernel_rfl) rfl ⟨by decide, rfl⟩ (Yld.pure rfl nrmQ) ?_
        refine WA.take (idx := [6, 8]) 10 rfl (by kernel_rfl) (by kernel_rfl) (by kernel_rfl) rfl ⟨by decide, rfl⟩ (Yld.pure rfl nrmQ) ?_
        refine WA.one 11 (by kernel_rfl) rfl rfl ?_
        first | refine StepTo.allocA rfl rfl rfl rfl (fun _ => ⟨⟨[7, 9], by decide, rfl⟩, ?_⟩) | refine StepTo.alloc1 rfl rfl rfl rfl rfl (fun _ => ⟨⟨[7, 9], by decide, rfl⟩, ?_⟩)
        refine WA.one 13 (by kernel_rfl) rfl rfl ?_
        first | refine StepTo.storeA 0 rfl rfl rfl rfl rfl rfl rfl rfl overQ setQ ⟨⟨[7, 9], by decide, rfl⟩, ?_⟩ | refine StepTo.store1 0 rfl rfl rfl rfl rfl rfl rfl overQ setQ ⟨⟨[7, 9], by decide, rfl⟩, ?_⟩
        refine WA.one 14 (by kernel_rfl) rfl rfl ?_
        first | refine StepTo.storeA 2 rfl rfl rfl rfl rfl rfl rfl rfl overQ setQ ⟨⟨[7, 9], by decide, rfl⟩, ?_⟩ | refine StepTo.store1 2 rfl rfl rfl rfl rfl rfl rfl overQ setQ ⟨⟨[7, 9], by decide, rfl⟩, ?_⟩
        refine WA.take (idx := [7, 9]) 15 rfl (by kernel_rfl) (by kernel_rfl) (by kernel_rfl) rfl ⟨by decide, rfl⟩ (Yld.pure rfl nrmQ) ?_
        refine WA.done (by kernel_rfl) ?_
        refine WQ.thenN (WQ.met _ _ [0, 2, 1, 3, 4, 5, 6, 7, 9] (by repeat (first | exact Sub.nil | refine Sub.cons rfl ?_ | refine Sub.consE rfl (int_eq (by omega)) ?_)) ⟨by decide, rfl⟩ ⟨A4, c4, _, _, ok4, rfl, rfl⟩)
      · first | refine StepTo.allocA rfl rfl rfl rfl (fun _ => ⟨⟨[6, 8], by decide, rfl⟩, ?_⟩) | refine StepTo.alloc1 rfl rfl rfl rfl rfl (fun _ => ⟨⟨[6, 8], by decide, rfl⟩, ?_⟩)
        refine WA.one 6 (by kernel_rfl) rfl rfl ?_
        refine StepTo.callN [7] (us := [.agg #[.slice A2 n1 c2], pcv x]) rfl rfl rfl rfl rfl (by kernel_rfl) (fun w hw => cr w (hw.lst 7 Fr.Fp.cs_len (by omega) rfl) (nearV.vs 7 rfl (by simp))) ?_
        rintro v N ⟨A4, n4, c4, rfl, ok4, hn4, rfl⟩
        obtain rfl : n4 = n3 := hn4.trans hn3.symm
        refine ⟨⟨[7, 9], by decide, rfl⟩, ?_⟩
        refine WA.take (idx := [7, 9]) 7 rfl (by kernel_rfl) (by kernel_rfl) (by kernel_rfl) rfl ⟨by decide, rfl⟩ (Yld.pure rfl nrmQ) ?_
        refine WA.take (idx := [7, 9]) 8 rfl (by kernel_rfl) (by kernel_rfl) (by kernel_rfl) rfl ⟨by decide, rfl⟩ (Yld.pure rfl nrmQ) ?_
        refine WA.take (idx := [7, 9]) 9 rfl (by kernel_rfl) (by kernel_rfl) (by kernel_rfl) rfl ⟨by decide, rfl⟩ (Yld.pure rfl nrmQ) ?_
        refine WA.take (idx := [7, 9]) 10 rfl (by kernel_rfl) (by kernel_rfl) (by kernel_rfl) rfl ⟨by decide, rfl⟩ (Yld.pure rfl nrmQ) ?_
        refine WA.one 13 (by kernel_rfl) rfl rfl ?_
        first | refine StepTo.storeA 1 rfl rfl rfl rfl rfl rfl rfl rfl overQ setQ ⟨⟨[7, 9], by decide, rfl⟩, ?_⟩ | refine StepTo.store1 1 rfl rfl rfl rfl rfl rfl rfl overQ setQ ⟨⟨[7, 9], by decide, rfl⟩, ?_⟩
        refine WA.one 14 (by kernel_rfl) rfl rfl ?_
        first | refine StepTo.storeA 2 rfl rfl rfl rfl rfl rfl rfl rfl overQ setQ ⟨⟨[7, 9], by decide, rfl⟩, ?_⟩ | refine StepTo.store1 2 rfl rfl rfl rfl rfl rfl rfl overQ setQ ⟨⟨[7, 9], by decide, rfl⟩, ?_⟩
        refine WA.take (idx := [7, 9]) 15 rfl (by kernel_rfl) (by kernel_rfl) (by kernel_rfl) rfl ⟨by decide, rfl⟩ (Yld.pure rfl nrmQ) ?_
        refine WA.done (by kernel_rfl) ?_
        refine WQ.thenN (WQ.met _ _ [1, 2, 0, 3, 4, 5, 6, 7, 9] (by repeat (first | exact Sub.nil | refine Sub.cons rfl ?_ | refine Sub.consE rfl (int_eq (by omega)) ?_)) ⟨by decide, rfl⟩ ⟨A4, c4, _, _, ok4, rfl, rfl⟩)
  · first | refine StepTo.allocA rfl rfl rfl rfl (fun _ => ⟨⟨[5, 7], by decide, rfl⟩, ?_⟩) | refine StepTo.alloc1 rfl rfl rfl rfl rfl (fun _ => ⟨⟨[5, 7], by decide, rfl⟩, ?_⟩)
    refine WA.two 5 12 (by kernel_rfl) rfl rfl rfl rfl ?_ ?_
    · refine StepTo.callV (us := [pcv x]) rfl rfl rfl rfl rfl (by kernel_rfl) (fun w _ => one_q x w) ⟨⟨[5, 7], by decide, rfl⟩, ?_⟩
      refine WA.two 6 12 (by kernel_rfl) rfl rfl rfl rfl ?_ ?_
      · refine StepTo.callN [6] (us := [.agg #[.slice A2 n1 c2], pcv x]) rfl rfl rfl rfl rfl (by kernel_rfl) (fun w hw => cr w (hw.lst 6 Fr.Fp.cs_len (by omega) rfl) (nearV.vs 6 rfl (by simp))) ?_
        rintro v N ⟨A4, n4, c4, rfl, ok4, hn4, rfl⟩
        obtain rfl : n4 = n3 := hn4.trans hn3.symm
        refine ⟨⟨[6, 8], by decide, rfl⟩, ?_⟩
        refine WA.take (idx := [6, 8]) 7 rfl (by kernel_rfl) (by kernel_rfl) (by kernel_rfl) rfl ⟨by decide, rfl⟩ (Yld.pure rfl nrmQ) ?_
        refine WA.take (idx := [6, 8]) 8 rfl (by kernel_rfl) (by kernel_rfl) (by kernel_rfl) rfl ⟨by decide, rfl⟩ (Yld.pure rfl nrmQ) ?_
        refine WA.take (idx := [6, 8]) 9 rfl (by kernel_rfl) (by kernel_rfl) (by kernel_rfl) rfl ⟨by decide, rfl⟩ (Yld.pure rfl nrmQ) ?_
        refine WA.take (idx := [6, 8]) 10 rfl (by kernel_rfl) (by kernel_rfl) (by kernel_rfl) rfl ⟨by decide, rfl⟩ (Yld.pure rfl nrmQ) ?_
        refine WA.one 12 (by kernel_rfl) rfl rfl ?_
        first | refine StepTo.allocA rfl rfl rfl rfl (fun _ => ⟨⟨[7, 9], by decide, rfl⟩, ?_⟩) | refine StepTo.alloc1 rfl rfl rfl rfl rfl (fun _ => ⟨⟨[7, 9], by decide, rfl⟩, ?_⟩)
        refine WA.one 13 (by kernel_rfl) rfl rfl ?_
        first | refine StepTo.storeA 2 rfl rfl rfl rfl rfl rfl rfl rfl overQ setQ ⟨⟨[7, 9], by decide, rfl⟩, ?_⟩ | refine StepTo.store1 2 rfl rfl rfl rfl rfl rfl rfl overQ setQ ⟨⟨[7, 9], by decide, rfl⟩, ?_⟩
        refine WA.one 14 (by kernel_rfl) rfl rfl ?_
        first | refine StepTo.storeA 0 rfl rfl rfl rfl rfl rfl rfl rfl overQ setQ ⟨⟨[7, 9], by decide, rfl⟩, ?_⟩ | refine StepTo.store1 0 rfl rfl rfl rfl rfl rfl rfl overQ setQ ⟨⟨[7, 9], by decide, rfl⟩, ?_⟩
        refine WA.take (idx := [7, 9]) 15 rfl (by kernel_rfl) (by kernel_rfl) (by kernel_rfl) rfl ⟨by decide, rfl⟩ (Yld.pure rfl nrmQ) ?_
        refine WA.done (by kernel_rfl) ?_
        refine WQ.thenN (WQ.met _ _ [2, 0, 1, 3, 4, 5, 6, 7, 9] (by repeat (first | exact Sub.nil | refine Sub.cons rfl ?_ | refine Sub.consE rfl (int_eq (by omega)) ?_)) ⟨by decide, rfl⟩ ⟨A4, c4, _, _, ok4, rfl, rfl⟩)
      · first | refine StepTo.allocA rfl rfl rfl rfl (fun _ => ⟨⟨[6, 8], by decide, rfl⟩, ?_⟩) | refine StepTo.alloc1 rfl rfl rfl rfl rfl (fun _ => ⟨⟨[6, 8], by decide, rfl⟩, ?_⟩)
        refine WA.one 6 (by kernel_rfl) rfl rfl ?_
        refine StepTo.callN [7] (us := [.agg #[.slice A2 n1 c2], pcv x]) rfl rfl rfl rfl rfl (by kernel_rfl) (fun w hw => cr w (hw.lst 7 Fr.Fp.cs_len (by omega) rfl) (nearV.vs 7 rfl (by simp))) ?_
        rintro v N ⟨A4, n4, c4, rfl, ok4, hn4, rfl⟩
        obtain rfl : n4 = n3 := hn4.trans hn3.symm
        refine ⟨⟨[7, 9], by decide, rfl⟩, ?_⟩
        refine WA.take (idx := [7, 9]) 7 rfl (by kernel_rfl) (by kernel_rfl) (by kernel_rfl) rfl ⟨by decide, rfl⟩ (Yld.pure rfl nrmQ) ?_
        refine WA.take (idx := [7, 9]) 8 rfl (by kernel_rfl) (by kernel_rfl) (by kernel_rfl) rfl ⟨by decide, rfl⟩ (Yld.pure rfl nrmQ) ?_
        refine WA.take (idx := [7, 9]) 9 rfl (by kernel_rfl) (by kernel_rfl) (by kernel_rfl) rfl ⟨by decide, rfl⟩ (Yld.pure rfl nrmQ) ?_
        refine WA.take (idx := [7, 9]) 10 rfl (by kernel_rfl) (by kernel_rfl) (by kernel_rfl) rfl ⟨by decide, rfl⟩ (Yld.pure rfl nrmQ) ?_
        refine WA.one 13 (by kernel_rfl) rfl rfl ?_
        first | refine StepTo.storeA 2 rfl rfl rfl rfl rfl rfl rfl rfl overQ setQ ⟨⟨[7, 9], by decide, rfl⟩, ?_⟩ | refine StepTo.store1 2 rfl rfl rfl rfl rfl rfl rfl overQ setQ ⟨⟨[7, 9], by decide, rfl⟩, ?_⟩
        refine WA.one 14 (by kernel_rfl) rfl rfl ?_
        first | refine StepTo.storeA 1 rfl rfl rfl rfl rfl rfl rfl rfl overQ setQ ⟨⟨[7, 9], by decide, rfl⟩, ?_⟩ | refine StepTo.store1 1 rfl rfl rfl rfl rfl rfl rfl overQ setQ ⟨⟨[7, 9], by decide, rfl⟩, ?_⟩
        refine WA.take (idx := [7, 9]) 15 rfl (by kernel_rfl) (by kernel_rfl) (by kernel_rfl) rfl ⟨by decide, rfl⟩ (Yld.pure rfl nrmQ) ?_
        refine WA.done (by kernel_rfl) ?_
        refine WQ.thenN (WQ.met _ _ [2, 1, 0, 3, 4, 5, 6, 7, 9] (by repeat (first | exact Sub.nil | refine Sub.cons rfl ?_ | refine Sub.consE rfl (int_eq (by omega)) ?_)) ⟨by decide, rfl⟩ ⟨A4, c4, _, _, ok4, rfl, rfl⟩)
    · first | refine StepTo.allocA rfl rfl rfl rfl (fun _ => ⟨⟨[6, 8], by decide, rfl⟩, ?_⟩) | refine StepTo.alloc1 rfl rfl rfl rfl rfl (fun _ => ⟨⟨[6, 8], by decide, rfl⟩, ?_⟩)
      refine WA.one 5 (by kernel_rfl) rfl rfl ?_
      refine StepTo.callV (us := [pcv x]) rfl rfl rfl rfl rfl (by kernel_rfl) (fun w _ => one_q x w) ⟨⟨[6, 8], by decide, rfl⟩, ?_⟩
      refine WA.one 6 (by kernel_rfl) rfl rfl ?_
      refine StepTo.callN [7] (us := [.agg #[.slice A2 n1 c2], pcv x]) rfl rfl rfl rfl rfl (by kernel_rfl) (fun w hw => cr w (hw.lst 7 Fr.Fp.cs_len (by omega) rfl) (nearV.vs 7 rfl (by simp))) ?_
      rintro v N ⟨A4, n4, c4, rfl, ok4, hn4, rfl⟩
      obtain rfl : n4 = n3 := hn4.trans hn3.symm
      refine ⟨⟨[7, 9], by decide, rfl⟩, ?_⟩
      refine WA.take (idx := [7, 9]) 7 rfl (by kernel_rfl) (by kernel_rfl) (by kernel_rfl) rfl ⟨by decide, rfl⟩ (Yld.pure rfl nrmQ) ?_
      refine WA.take (idx := [7, 9]) 8 rfl (by kernel_rfl) (by kernel_rfl) (by kernel_rfl) rfl ⟨by decide, rfl⟩ (Yld.pure rfl nrmQ) ?_
      refine WA.take (idx := [7, 9]) 9 rfl (by kernel_rfl) (by kernel_rfl) (by kernel_rfl) rfl ⟨by decide, rfl⟩ (Yld.pure rfl nrmQ) ?_
      refine WA.take (idx := [7, 9]) 10 rfl (by kernel_rfl) (by kernel_rfl) (by kernel_rfl) rfl ⟨by decide, rfl⟩ (Yld.pure rfl nrmQ) ?_
      refine WA.one 13 (by kernel_rfl) rfl rfl ?_
      first | refine StepTo.storeA 2 rfl rfl rfl rfl rfl rfl rfl rfl overQ setQ ⟨⟨[7, 9], by decide, rfl⟩, ?_⟩ | refine StepTo.store1 2 rfl rfl rfl rfl rfl rfl rfl overQ setQ ⟨⟨[7, 9], by decide, rfl⟩, ?_⟩
      refine WA.one 14 (by kernel_rfl) rfl rfl ?_
      first | refine StepTo.storeA 1 rfl rfl rfl rfl rfl rfl rfl rfl overQ setQ ⟨⟨[7, 9], by decide, rfl⟩, ?_⟩ | refine StepTo.store1 1 rfl rfl rfl rfl rfl rfl rfl overQ setQ ⟨⟨[7, 9], by decide, rfl⟩, ?_⟩
      refine WA.take (idx := [7, 9]) 15 rfl (by kernel_rfl) (by kernel_rfl) (by kernel_rfl) rfl ⟨by decide, rfl⟩ (Yld.pure rfl nrmQ) ?_
      refine WA.done (by kernel_rfl) ?_
      refine WQ.thenN (WQ.met _ _ [2, 1, 0, 3, 4, 5, 6, 7, 9] (by repeat (first | exact Sub.nil | refine Sub.cons rfl ?_ | refine Sub.consE rfl (int_eq (by omega)) ?_)) ⟨by decide, rfl⟩ ⟨A4, c4, _, _, ok4, rfl, rfl⟩)
  · first | refine StepTo.allocA rfl rfl rfl rfl (fun _ => ⟨⟨[5, 7], by decide, rfl⟩, ?_⟩) | refine StepTo.alloc1 rfl rfl rfl rfl rfl (fun _ => ⟨⟨[5, 7], by decide, rfl⟩, ?_⟩)
    refine WA.two 5 11 (by kernel_rfl) rfl rfl rfl rfl ?_ ?_
    · refine StepTo.callV (us := [pcv x]) rfl rfl rfl rfl rfl (by kernel_rfl) (fun w _ => one_q x w) ⟨⟨[5, 7], by decide, rfl⟩, ?_⟩
      refine WA.two 6 11 (by kernel_rfl) rfl rfl rfl rfl ?_ ?_
      · refine StepTo.callN [6] (us := [.agg #[.slice A2 n1 c2], pcv x]) rfl rfl rfl rfl rfl (by kernel_rfl) (fun w hw => cr w (hw.lst 6 Fr.Fp.cs_len (by omega) rfl) (nearV.vs 6 rfl (by simp))) ?_
        rintro v N ⟨A4, n4, c4, rfl, ok4, hn4, rfl⟩
        obtain rfl : n4 = n3 := hn4.trans hn3.symm
        refine ⟨⟨[6, 8], by decide, rfl⟩, ?_⟩
        refine WA.take (idx := [6, 8]) 7 rfl (by kernel_rfl) (by kernel_rfl) (by kernel_rfl) rfl ⟨by decide, rfl⟩ (Yld.pure rfl nrmQ) ?_
        refine WA.take (idx := [6, 8]) 8 rfl (by kernel_rfl) (by kernel_rfl) (by kernel_rfl) rfl ⟨by decide, rfl⟩ (Yld.pure rfl nrmQ) ?_
        refine WA.take (idx := [6, 8]) 9 rfl (by kernel_rfl) (by kernel_rfl) (by kernel_rfl) rfl ⟨by decide, rfl⟩ (Yld.pure rfl nrmQ) ?_
        refine WA.take (idx := [6, 8]) 10 rfl (by kernel_rfl) (by kernel_rfl) (by kernel_rfl) rfl ⟨by decide, rfl⟩ (Yld.pure rfl nrmQ) ?_
        refine WA.one 11 (by kernel_rfl) rfl rfl ?_
        first | refine StepTo.allocA rfl rfl rfl rfl (fun _ => ⟨⟨[7, 9], by decide, rfl⟩, ?_⟩) | refine StepTo.alloc1 rfl rfl rfl rfl rfl (fun _ => ⟨⟨[7, 9], by decide, rfl⟩, ?_⟩)
        refine WA.one 13 (by kernel_rfl) rfl rfl ?_
        first | refine StepTo.storeA 0 rfl rfl rfl rfl rfl rfl rfl rfl overQ setQ ⟨⟨[7, 9], by decide, rfl⟩, ?_⟩ | refine StepTo.store1 0 rfl rfl rfl rfl rfl rfl rfl overQ setQ ⟨⟨[7, 9], by decide, rfl⟩, ?_⟩
        refine WA.one 14 (by kernel_rfl) rfl rfl ?_
        first | refine StepTo.storeA 2 rfl rfl rfl rfl rfl rfl rfl rfl overQ setQ ⟨⟨[7, 9], by decide, rfl⟩, ?_⟩ | refine StepTo.store1 2 rfl rfl rfl rfl rfl rfl rfl overQ setQ ⟨⟨[7, 9], by decide, rfl⟩, ?_⟩
        refine WA.take (idx := [7, 9]) 15 rfl (by kernel_rfl) (by kernel_rfl) (by kernel_rfl) rfl ⟨by decide, rfl⟩ (Yld.pure rfl nrmQ) ?_
        refine WA.done (by kernel_rfl) ?_
        refine WQ.thenN (WQ.met _ _ [0, 2, 1, 3, 4, 5, 6, 7, 9] (by repeat (first | exact Sub.nil | refine Sub.cons rfl ?_ | refine Sub.consE rfl (int_eq (by omega)) ?_)) ⟨by decide, rfl⟩ ⟨A4, c4, _, _, ok4, rfl, rfl⟩)
      · first | refine StepTo.allocA rfl rfl rfl rfl (fun _ => ⟨⟨[6, 8], by decide, rfl⟩, ?_⟩) | refine StepTo.alloc1 rfl rfl rfl rfl rfl (fun _ => ⟨⟨[6, 8], by decide, rfl⟩, ?_⟩)
        refine WA.one 6 (by kernel_rfl) rfl rfl ?_
        refine StepTo.callN [7] (us := [.agg #[.slice A2 n1 c2], pcv x]) rfl rfl rfl rfl rfl (by kernel_rfl) (fun w hw => cr w (hw.lst 7 Fr.Fp.cs_len (by omega) rfl) (nearV.vs 7 rfl (by simp))) ?_
        rintro v N ⟨A4, n4, c4, rfl, ok4, hn4, rfl⟩
        obtain rfl : n4 = n3 := hn4.trans hn3.symm
        refine ⟨⟨[7, 9], by decide, rfl⟩, ?_⟩
        refine WA.take (idx := [7, 9]) 7 rfl (by kernel_rfl) (by kernel_rfl) (by kernel_rfl) rfl ⟨by decide, rfl⟩ (Yld.pure rfl nrmQ) ?_
        refine WA.take (idx := [7, 9]) 8 rfl (by kernel_rfl) (by kernel_rfl) (by kernel_rfl) rfl ⟨by decide, rfl⟩ (Yld.pure rfl nrmQ) ?_
        refine WA.take (idx := [7, 9]) 9 rfl (by kernel_rfl) (by kernel_rfl) (by kernel_rfl) rfl ⟨by decide, rfl⟩ (Yld.pure rfl nrmQ) ?_
        refine WA.take (idx := [7, 9]) 10 rfl (by kernel_rfl) (by kernel_rfl) (by kernel_rfl) rfl ⟨by decide, rfl⟩ (Yld.pure rfl nrmQ) ?_
        refine WA.one 13 (by kernel_rfl) rfl rfl ?_
        first | refine StepTo.storeA 1 rfl rfl rfl rfl rfl rfl rfl rfl overQ setQ ⟨⟨[7, 9], by decide, rfl⟩, ?_⟩ | refine StepTo.store1 1 rfl rfl rfl rfl rfl rfl rfl overQ setQ ⟨⟨[7, 9], by decide, rfl⟩, ?_⟩
        refine WA.one 14 (by kernel_rfl) rfl rfl ?_
        first | refine StepTo.storeA 2 rfl rfl rfl rfl rfl rfl rfl rfl overQ setQ ⟨⟨[7, 9], by decide, rfl⟩, ?_⟩ | refine StepTo.store1 2 rfl rfl rfl rfl rfl rfl rfl overQ setQ ⟨⟨[7, 9], by decide, rfl⟩, ?_⟩
        refine WA.take (idx := [7, 9]) 15 rfl (by kernel_rfl) (by kernel_rfl) (by kernel_rfl) rfl ⟨by decide, rfl⟩ (Yld.pure rfl nrmQ) ?_
        refine WA.done (by kernel_rfl) ?_
        refine WQ.thenN (WQ.met _ _ [1, 2, 0, 3, 4, 5, 6, 7, 9] (by repeat (first | exact Sub.nil | refine Sub.cons rfl ?_ | refine Sub.consE rfl (int_eq (by omega)) ?_)) ⟨by decide, rfl⟩ ⟨A4, c4, _, _, ok4, rfl, rfl⟩)
    · first | refine StepTo.allocA rfl rfl rfl rfl (fun _ => ⟨⟨[6, 8], by decide, rfl⟩, ?_⟩) | refine StepTo.alloc1 rfl rfl rfl rfl rfl (fun _ => ⟨⟨[6, 8], by decide, rfl⟩, ?_⟩)
      refine WA.one 5 (by kernel_rfl) rfl rfl ?_
      refine StepTo.callV (us := [pcv x]) rfl rfl rfl rfl rfl (by kernel_rfl) (fun w _ => one_q x w) ⟨⟨[6, 8], by decide, rfl⟩, ?_⟩
      refine WA.one 6 (by kernel_rfl) rfl rfl ?_
      refine StepTo.callN [7] (us := [.agg #[.slice A2 n1 c2], pcv x]) rfl rfl rfl rfl rfl (by kernel_rfl) (fun w hw => cr w (hw.lst 7 Fr.Fp.cs_len (by omega) rfl) (nearV.vs 7 rfl (by simp))) ?_
      rintro v N ⟨A4, n4, c4, rfl, ok4, hn4, rfl⟩
      obtain rfl : n4 = n3 := hn4.trans hn3.symm
      refine ⟨⟨[7, 9], by decide, rfl⟩, ?_⟩
      refine WA.take (idx := [7, 9]) 7 rfl (by kernel_rfl) (by kernel_rfl) (by kernel_rfl) rfl ⟨by decide, rfl⟩ (Yld.pure rfl nrmQ) ?_
      refine WA.take (idx := [7, 9]) 8 rfl (by kernel_rfl) (by kernel_rfl) (by kernel_rfl) rfl ⟨by decide, rfl⟩ (Yld.pure rfl nrmQ) ?_
      refine WA.take (idx := [7, 9]) 9 rfl (by kernel_rfl) (by kernel_rfl) (by kernel_rfl) rfl ⟨by decide, rfl⟩ (Yld.pure rfl nrmQ) ?_
      refine WA.take (idx := [7, 9]) 10 rfl (by kernel_rfl) (by kernel_rfl) (by kernel_rfl) rfl ⟨by decide, rfl⟩ (Yld.pure rfl nrmQ) ?_
      refine WA.one 13 (by kernel_rfl) rfl rfl ?_
      first | refine StepTo.storeA 1 rfl rfl rfl rfl rfl rfl rfl rfl overQ setQ ⟨⟨[7, 9], by decide, rfl⟩, ?_⟩ | refine StepTo.store1 1 rfl rfl rfl rfl rfl rfl rfl overQ setQ ⟨⟨[7, 9], by decide, rfl⟩, ?_⟩
      refine WA.one 14 (by kernel_rfl) rfl rfl ?_
      first | refine StepTo.storeA 2 rfl rfl rfl rfl rfl rfl rfl rfl overQ setQ ⟨⟨[7, 9], by decide, rfl⟩, ?_⟩ | refine StepTo.store1 2 rfl rfl rfl rfl rfl rfl rfl overQ setQ ⟨⟨[7, 9], by decide, rfl⟩, ?_⟩
      refine WA.take (idx := [7, 9]) 15 rfl (by kernel_rfl) (by kernel_rfl) (by kernel_rfl) rfl ⟨by decide, rfl⟩ (Yld.pure rfl nrmQ) ?_
      refine WA.done (by kernel_rfl) ?_
      refine WQ.thenN (WQ.met _ _ [1, 2, 0, 3, 4, 5, 6, 7, 9] (by repeat (first | exact Sub.nil | refine Sub.cons rfl ?_ | refine Sub.consE rfl (int_eq (by omega)) ?_)) ⟨by decide, rfl⟩ ⟨A4, c4, _, _, ok4, rfl, rfl⟩)
  rintro τ H ⟨A4, c4, b11, b12, ok4, rfl, rfl⟩
  have hb3 : ∀ x ∈ b', x.tx.length ≤ 30000 := fun x hx => by have := hbx' x hx; omega
  have bq1 := fun w hL => bytes_q A3 n3 c3 b' w hL (by omega) hb3
  have bq2 := fun w hL => rbytes_q A4 n3 c4 b' w hL (by omega) hb3
  have hol := Fr.opens_len b'
  repeat' (first
    | refine goS ?_
    | ((with_reducible refine WL.isN_bin ?_); first | refine WL.yld rfl binQ ?_)
    | ((with_reducible refine WL.isN_load ?_); first | refine WL.yld rfl loadQ ?_)
    | ((with_reducible refine WL.isN_iaddr ?_); first | refine WL.yld rfl iaddrQ ?_)
    | ((with_reducible refine WL.isN_build ?_); first | refine WL.yld rfl buildQ ?_)
    | ((with_reducible refine WL.isN_call ?_); first | refine WL.yld rfl lenQ ?_)
    | ((with_reducible refine WL.isN_alloc ?_); first | refine WL.step rfl (StepTo.allocA rfl rfl rfl rfl (fun _ => ?_)) | refine WL.step rfl (StepTo.alloc1 rfl rfl rfl rfl rfl (fun _ => ?_)))
    | ((with_reducible refine WL.isN_store ?_); first | refine WL.step rfl (StepTo.st1 rfl rfl rfl rfl rfl rfl ?_) | refine WL.step rfl (StepTo.stA rfl rfl rfl rfl rfl rfl rfl ?_) | refine WL.step rfl (StepTo.stR rfl rfl rfl rfl rfl rfl rfl ?_))
    | with_reducible refine WC.block ?_
    | (refine WC.cond rfl (fun hc => ?_) (fun hc => ?_) <;> (try first | (with_reducible replace hc := of_decide_eq_true hc) | (with_reducible replace hc := of_decide_eq_false hc) | (with_reducible replace hc := eqT hc) | (with_reducible replace hc := eqF hc) | (with_reducible replace hc := neT hc) | (with_reducible replace hc := neF hc) | (with_reducible replace hc := noT hc) | (with_reducible replace hc := noF hc)) <;> (try (exfalso; omega))))
  refine WL.step rfl (StepTo.callN [] (us := [.agg #[.slice A3 n3 c3]]) rfl rfl rfl rfl rfl (by kernel_rfl) (fun w hw => open_w A3 n3 c3 b' w (hw.lst 5 Fr.Fp.cs_len (by omega) rfl) (by omega)) ?_)
  rintro v N ⟨A5, k5, c5, rfl, ok5, hk5, rfl⟩
  repeat' (first
    | refine goS ?_
    | ((with_reducible refine WL.isN_bin ?_); first | refine WL.yld rfl binQ ?_)
    | ((with_reducible refine WL.isN_load ?_); first | refine WL.yld rfl loadQ ?_)
    | ((with_reducible refine WL.isN_iaddr ?_); first | refine WL.yld rfl iaddrQ ?_)
    | ((with_reducible refine WL.isN_build ?_); first | refine WL.yld rfl buildQ ?_)
    | ((with_reducible refine WL.isN_call ?_); first | refine WL.yld rfl lenQ ?_)
    | ((with_reducible refine WL.isN_alloc ?_); first | refine WL.step rfl (StepTo.allocA rfl rfl rfl rfl (fun _ => ?_)) | refine WL.step rfl (StepTo.alloc1 rfl rfl rfl rfl rfl (fun _ => ?_)))
    | ((with_reducible refine WL.isN_store ?_); first | refine WL.step rfl (StepTo.st1 rfl rfl rfl rfl rfl rfl ?_) | refine WL.step rfl (StepTo.stA rfl rfl rfl rfl rfl rfl rfl ?_) | refine WL.step rfl (StepTo.stR rfl rfl rfl rfl rfl rfl rfl ?_))
    | with_reducible refine WC.block ?_
    | (refine WC.cond rfl (fun hc => ?_) (fun hc => ?_) <;> (try first | (with_reducible replace hc := of_decide_eq_true hc) | (with_reducible replace hc := of_decide_eq_false hc) | (with_reducible replace hc := eqT hc) | (with_reducible replace hc := eqF hc) | (with_reducible replace hc := neT hc) | (with_reducible replace hc := neF hc) | (with_reducible replace hc := noT hc) | (with_reducible replace hc := noF hc)) <;> (try (exfalso; omega))))
  refine WL.step rfl (StepTo.callN [] (us := [.agg #[.slice A4 n3 c4]]) rfl rfl rfl rfl rfl (by kernel_rfl) (fun w hw => ropen_w A4 n3 c4 b' w (hw.lst 3 Fr.Fp.cs_len (by omega) rfl) (by omega)) ?_)
  rintro v N ⟨A6, k6, c6, rfl, ok6, hk6, rfl⟩
  obtain rfl : k6 = k5 := by omega
  generalize Fr.opens b' = ops at *
  repeat' (first
    | refine goS ?_
    | ((with_reducible refine WL.isN_bin ?_); first | refine WL.yld rfl (Yld.neqSame 4 rfl rfl rfl (by kernel_rfl) (by kernel_rfl) rfl rfl (by simp)) ?_ | refine WL.yld rfl binQ ?_)
    | ((with_reducible refine WK.isN_bin ?_); first | refine WK.yld rfl (Yld.neqSame 4 rfl rfl rfl (by kernel_rfl) (by kernel_rfl) rfl rfl (by simp)) ?_ | refine WK.yld rfl binQ ?_)
    | ((with_reducible refine WL.isN_load ?_); first | refine WL.yld rfl loadQ ?_)
    | ((with_reducible refine WK.isN_load ?_); first | refine WK.yld rfl loadQ ?_)
    | ((with_reducible refine WL.isN_iaddr ?_); first | refine WL.yld rfl iaddrQ ?_)
    | ((with_reducible refine WK.isN_iaddr ?_); first | refine WK.yld rfl iaddrQ ?_)
    | ((with_reducible refine WL.isN_build ?_); first | refine WL.yld rfl buildQ ?_)
    | ((with_reducible refine WK.isN_build ?_); first | refine WK.yld rfl buildQ ?_)
    | ((with_reducible refine WL.isN_call ?_); first | refine WK.step rfl (Qui.call (v := .bool true) (us := [.agg #[.slice A3 n3 c3], .agg #[.slice A4 n3 c4]]) rfl rfl rfl (by kernel_rfl) (fun w hw => same_q A3 A4 n3 c3 c4 b' w (hw.lst 7 Fr.Fp.cs_len (by omega) rfl) (hw.lst 4 Fr.Fp.cs_len (by omega) rfl) (by omega))) ?_ | refine WK.step rfl (Qui.call (v := .int .i64 (Fr.size b' : Nat)) (us := [.agg #[.slice A3 n3 c3]]) rfl rfl rfl (by kernel_rfl) (fun w hw => bq1 w (hw.lst 7 Fr.Fp.cs_len (by omega) rfl))) ?_ | refine WK.step rfl (Qui.call (v := .int .i64 (Fr.size b' : Nat)) (us := [.agg #[.slice A4 n3 c4]]) rfl rfl rfl (by kernel_rfl) (fun w hw => bq2 w (hw.lst 4 Fr.Fp.cs_len (by omega) rfl))) ?_ | refine WK.step rfl (Qui.call (v := .agg m.cs.toArray) (us := [.agg m.cs.toArray]) rfl rfl rfl (by kernel_rfl) (fun w _ => told_q m w)) ?_ | refine WL.yld rfl lenQ ?_)
    | ((with_reducible refine WK.isN_call ?_); first | refine WK.step rfl (Qui.call (v := .bool true) (us := [.agg #[.slice A3 n3 c3], .agg #[.slice A4 n3 c4]]) rfl rfl rfl (by kernel_rfl) (fun w hw => same_q A3 A4 n3 c3 c4 b' w (hw.lst 7 Fr.Fp.cs_len (by omega) rfl) (hw.lst 4 Fr.Fp.cs_len (by omega) rfl) (by omega))) ?_ | refine WK.step rfl (Qui.call (v := .int .i64 (Fr.size b' : Nat)) (us := [.agg #[.slice A3 n3 c3]]) rfl rfl rfl (by kernel_rfl) (fun w hw => bq1 w (hw.lst 7 Fr.Fp.cs_len (by omega) rfl))) ?_ | refine WK.step rfl (Qui.call (v := .int .i64 (Fr.size b' : Nat)) (us := [.agg #[.slice A4 n3 c4]]) rfl rfl rfl (by kernel_rfl) (fun w hw => bq2 w (hw.lst 4 Fr.Fp.cs_len (by omega) rfl))) ?_ | refine WK.step rfl (Qui.call (v := .agg m.cs.toArray) (us := [.agg m.cs.toArray]) rfl rfl rfl (by kernel_rfl) (fun w _ => told_q m w)) ?_ | refine WK.yld rfl lenQ ?_)
    | ((with_reducible refine WL.isN_alloc ?_); first | refine WL.step rfl (StepTo.allocA rfl rfl rfl rfl (fun _ => ?_)) | refine WL.step rfl (StepTo.alloc1 rfl rfl rfl rfl rfl (fun _ => ?_)))
    | ((with_reducible refine WL.isN_store ?_); first | refine WL.step rfl (StepTo.st1 rfl rfl rfl rfl rfl rfl ?_) | refine WL.step rfl (StepTo.stA rfl rfl rfl rfl rfl rfl rfl ?_) | refine WL.step rfl (StepTo.stR rfl rfl rfl rfl rfl rfl rfl ?_))
    | with_reducible refine WC.block ?_
    | (refine WC.quiet (i := 14) (by kernel_rfl) (by kernel_rfl) ?_)
    | (refine WC.cond rfl (fun hc => ?_) (fun hc => ?_) <;> (try first | (with_reducible replace hc := of_decide_eq_true hc) | (with_reducible replace hc := of_decide_eq_false hc) | (with_reducible replace hc := eqT hc) | (with_reducible replace hc := eqF hc) | (with_reducible replace hc := neT hc) | (with_reducible replace hc := neF hc) | (with_reducible replace hc := noT hc) | (with_reducible replace hc := noF hc)) <;> (try (exfalso; omega))))
  clear bq1 bq2 cp cr sq
  refine WC.loop (fun mm τ H => ∃ k : Nat, k ≤ k6 ∧ mm = k6 - k ∧
      τ = [(0, .slice (some ⟨bl, off, none⟩) n c), (5, .pointer (some ⟨bB, 0, none⟩)), (6, .pointer (some ⟨bQ, 0, none⟩)), (7, .int .i64 (i : Nat)), (8, .pointer (some ⟨b8, 0, none⟩)), (11, .pointer (some ⟨b11, 0, none⟩)), (14, .slice A5 k6 c5), (15, .slice A6 k6 c6), (16, .int .i64 (k : Nat))] ∧
      H = [.vw A6 k6 1 (flat (ic .u32) ops), .vw A5 k6 1 (flat (ic .u32) ops), .box b11 48 [.slice A4 n3 c4], .vw A4 n3 8 (flat Fr.Fp.cs b'), .box b8 36 [.slice A3 n3 c3], .vw A3 n3 8 (flat Fr.Fp.cs b'), .box bB 36 [.slice A1 n1 c1], .box bQ 48 [.slice A2 n1 c2], .vw (some ⟨bl, off, none⟩) n 8 (flat Fr.Fp.cs l)]) k6 _ _ [0, 1, 2, 4, 5, 7, 8, 9, 10] ?_ ?_ ⟨0, by omega, rfl, rfl, rfl⟩ ?_
  · exact (by repeat (first | exact Sub.nil | refine Sub.cons rfl ?_ | refine Sub.consE rfl (int_eq (by omega)) ?_))
  · exact ⟨by decide, rfl⟩
  rintro mm τ H ⟨k, hk, rfl, rfl, rfl⟩
  by_cases hkk : k < k6
  case neg =>
    repeat' (first
    | refine goS ?_
    | ((with_reducible refine WL.isN_bin ?_); first | refine WL.yld rfl binQ ?_)
    | ((with_reducible refine WL.isN_load ?_); first | refine WL.yld rfl loadQ ?_)
    | ((with_reducible refine WL.isN_iaddr ?_); first | refine WL.yld rfl iaddrQ ?_)
    | ((with_reducible refine WL.isN_build ?_); first | refine WL.yld rfl buildQ ?_)
    | ((with_reducible refine WL.isN_call ?_); first | refine WL.yld rfl lenQ ?_)
    | ((with_reducible refine WL.isN_alloc ?_); first | refine WL.step rfl (StepTo.allocA rfl rfl rfl rfl (fun _ => ?_)) | refine WL.step rfl (StepTo.alloc1 rfl rfl rfl rfl rfl (fun _ => ?_)))
    | ((with_reducible refine WL.isN_store ?_); first | refine WL.step rfl (StepTo.st1 rfl rfl rfl rfl rfl rfl ?_) | refine WL.step rfl (StepTo.stA rfl rfl rfl rfl rfl rfl rfl ?_) | refine WL.step rfl (StepTo.stR rfl rfl rfl rfl rfl rfl rfl ?_))
    | with_reducible refine WC.block ?_
    | (refine WC.cond rfl (fun hc => ?_) (fun hc => ?_) <;> (try first | (with_reducible replace hc := of_decide_eq_true hc) | (with_reducible replace hc := of_decide_eq_false hc) | (with_reducible replace hc := eqT hc) | (with_reducible replace hc := eqF hc) | (with_reducible replace hc := neT hc) | (with_reducible replace hc := neF hc) | (with_reducible replace hc := noT hc) | (with_reducible replace hc := noF hc)) <;> (try (exfalso; omega))))
    exact WQ.rnd (n - (i + 1)) _ _ [7, 3, 6, 5, 8] (by repeat (first | exact Sub.nil | refine Sub.cons rfl ?_ | refine Sub.consE rfl (int_eq (by omega)) ?_)) ⟨by decide, rfl⟩ (by omega) ⟨i + 1, A3, A4, n3, c3, c4, b', by omega, rfl, ok3, ok4, hn3.symm, by omega, hgb', hbx', rfl, rfl⟩
  obtain ⟨z, hz⟩ : ∃ z, ops[k]? = some z := ⟨_, List.getElem?_eq_getElem (by omega)⟩
  have hzv : (flat (ic .u32) ops)[k]? = some (.int .u32 z) := ic_get hz
  refine WC.vwAt 0 rfl (by omega) fun g6 o6 hA => ?_
  subst hA
  refine WC.vwAt 1 rfl (by omega) fun g5 o5 hA => ?_
  subst hA
  repeat' (first
    | refine goS ?_
    | ((with_reducible refine WL.isN_bin ?_); first | refine WL.yld rfl binQ ?_)
    | ((with_reducible refine WK.isN_bin ?_); first | refine WK.yld rfl binQ ?_)
    | ((with_reducible refine WL.isN_load ?_); first | refine WL.yld rfl (Yld.load rfl rfl rfl rfl (CellAt.vwE 0 rfl hzv (by omega))) ?_ | refine WL.yld rfl (Yld.load rfl rfl rfl rfl (CellAt.vwE 1 rfl hzv (by omega))) ?_ | refine WL.yld rfl loadQ ?_)
    | ((with_reducible refine WK.isN_load ?_); first | refine WK.yld rfl (Yld.load rfl rfl rfl rfl (CellAt.vwE 0 rfl hzv (by omega))) ?_ | refine WK.yld rfl (Yld.load rfl rfl rfl rfl (CellAt.vwE 1 rfl hzv (by omega))) ?_ | refine WK.yld rfl loadQ ?_)
    | ((with_reducible refine WL.isN_iaddr ?_); first | refine WL.yld rfl (Yld.indexS k rfl rfl rfl rfl rfl rfl hkk) ?_ | refine WL.yld rfl iaddrQ ?_)
    | ((with_reducible refine WK.isN_iaddr ?_); first | refine WK.yld rfl (Yld.indexS k rfl rfl rfl rfl rfl rfl hkk) ?_ | refine WK.yld rfl iaddrQ ?_)
    | ((with_reducible refine WL.isN_build ?_); first | refine WL.yld rfl buildQ ?_)
    | ((with_reducible refine WK.isN_build ?_); first | refine WK.yld rfl buildQ ?_)
    | ((with_reducible refine WL.isN_call ?_); first | refine WL.yld rfl lenQ ?_)
    | ((with_reducible refine WK.isN_call ?_); first | refine WK.yld rfl lenQ ?_)
    | ((with_reducible refine WL.isN_alloc ?_); first | refine WL.step rfl (StepTo.allocA rfl rfl rfl rfl (fun _ => ?_)) | refine WL.step rfl (StepTo.alloc1 rfl rfl rfl rfl rfl (fun _ => ?_)))
    | ((with_reducible refine WL.isN_store ?_); first | refine WL.step rfl (StepTo.st1 rfl rfl rfl rfl rfl rfl ?_) | refine WL.step rfl (StepTo.stA rfl rfl rfl rfl rfl rfl rfl ?_) | refine WL.step rfl (StepTo.stR rfl rfl rfl rfl rfl rfl rfl ?_))
    | with_reducible refine WC.block ?_
    | (refine WC.quiet (i := 19) (by kernel_rfl) (by kernel_rfl) ?_)
    | (refine WC.cond rfl (fun hc => ?_) (fun hc => ?_) <;> (try first | (with_reducible replace hc := of_decide_eq_true hc) | (with_reducible replace hc := of_decide_eq_false hc) | (with_reducible replace hc := eqT hc) | (with_reducible replace hc := eqF hc) | (with_reducible replace hc := neT hc) | (with_reducible replace hc := neF hc) | (with_reducible replace hc := noT hc) | (with_reducible replace hc := noF hc)) <;> (try (exfalso; omega))))
  exact WQ.rnd (k6 - (k + 1)) _ _ [0, 1, 2, 3, 4, 5, 6, 7, 8] (by repeat (first | exact Sub.nil | refine Sub.cons rfl ?_ | refine Sub.consE rfl (int_eq (by omega)) ?_)) ⟨by decide, rfl⟩ (by omega) ⟨k + 1, by omega, rfl, rfl, rfl⟩
end Go.Proofs.Ytaopomedbbcgcaa
