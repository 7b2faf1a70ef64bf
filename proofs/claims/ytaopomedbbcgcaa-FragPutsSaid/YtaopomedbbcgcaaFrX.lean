/- The law FragBytes. -/
import Derived.Test.YtaopomedbbcgcaaFrB
import Derived.Test.YtaopomedbbcgcaaFrO
namespace Go.Proofs.Ytaopomedbbcgcaa
open Go.RowKit Go.IntWalk
set_option linter.unusedVariables false
set_option linter.unusedSimpArgs false
set_option linter.unusedSectionVars false
set_option maxRecDepth 100000

set_option maxHeartbeats 8000000 in
theorem fragBytes_walk (A : Option Addr) (n c : Nat) (l : List Fr.Fp) (w : World) (hL : Ps w w.heap.size A n l) (hx : ∀ x ∈ l, x.In) :
    Calls Try.prog 6 #[.slice A n c] w fun e w' => e = .returned (.bool true) ∧ Below w.heap.size w w' := by
  have hl := hL.len
  have sq := fun w hL => small_q A n c l w hL
  cases hs : smallB l with
  | false =>
    rw [hs] at sq
    refine enterW (fun _ => False) _ Try.func6 rfl (by simp only [Try.ntmps6, List.length_cons, List.length_nil, Nat.reduceAdd, Nat.reduceSub]; rfl) ?_
    refine WC.addVw Fr.Fp.cs_len hL ?_
    repeat' (first
    | refine goS ?_
    | ((with_reducible refine WL.isN_bin ?_); first | refine WL.yld rfl binQ ?_)
    | ((with_reducible refine WL.isN_load ?_); first | refine WL.yld rfl loadQ ?_)
    | ((with_reducible refine WL.isN_iaddr ?_); first | refine WL.yld rfl iaddrQ ?_)
    | ((with_reducible refine WL.isN_build ?_); first | refine WL.yld rfl buildQ ?_)
    | ((with_reducible refine WL.isN_call ?_); first | refine WL.step rfl (StepTo.callV (v := .bool true) (us := []) rfl rfl rfl rfl rfl (by kernel_rfl) (fun w hw => frshown_q w) ?_) | refine WL.step rfl (StepTo.callV (v := .bool false) (us := [.slice A n c]) rfl rfl rfl rfl rfl (by kernel_rfl) (fun w hw => sq w (hw.lst 0 Fr.Fp.cs_len (by omega) rfl)) ?_) | refine WL.yld rfl lenQ ?_)
    | ((with_reducible refine WL.isN_alloc ?_); first | refine WL.step rfl (StepTo.allocA rfl rfl rfl rfl (fun _ => ?_)) | refine WL.step rfl (StepTo.alloc1 rfl rfl rfl rfl rfl (fun _ => ?_)))
    | ((with_reducible refine WL.isN_store ?_); first | refine WL.step rfl (StepTo.st1 rfl rfl rfl rfl rfl rfl ?_) | refine WL.step rfl (StepTo.stA rfl rfl rfl rfl rfl rfl rfl ?_) | refine WL.step rfl (StepTo.stR rfl rfl rfl rfl rfl rfl rfl ?_))
    | with_reducible refine WC.block ?_
    | (refine WC.cond rfl (fun hc => ?_) (fun hc => ?_) <;> (try first | (with_reducible replace hc := of_decide_eq_true hc) | (with_reducible replace hc := of_decide_eq_false hc) | (with_reducible replace hc := eqT hc) | (with_reducible replace hc := eqF hc) | (with_reducible replace hc := neT hc) | (with_reducible replace hc := neF hc) | (with_reducible replace hc := noT hc) | (with_reducible replace hc := noF hc)) <;> (try (exfalso; omega))))
    exact WQ.body (Reads.tmp rfl rfl) fun w' hw' => ⟨rfl, hw'.ext.below⟩
  | true =>
  rw [hs] at sq
  obtain ⟨hs1, hs2⟩ := smallB_iff.1 hs
  refine enterW (fun _ => False) _ Try.func6 rfl (by simp only [Try.ntmps6, List.length_cons, List.length_nil, Nat.reduceAdd, Nat.reduceSub]; rfl) ?_
  refine WC.addVw Fr.Fp.cs_len hL ?_
  refine WC.nilVw 8 ?_
  repeat' (first
    | refine goS ?_
    | ((with_reducible refine WL.isN_bin ?_); first | refine WL.yld rfl binQ ?_)
    | ((with_reducible refine WL.isN_load ?_); first | refine WL.yld rfl loadQ ?_)
    | ((with_reducible refine WL.isN_iaddr ?_); first | refine WL.yld rfl iaddrQ ?_)
    | ((with_reducible refine WL.isN_build ?_); first | refine WL.yld rfl (Yld.build (cells := #[.slice none 0 0]) rfl rfl rfl) ?_ | refine WL.yld rfl buildQ ?_)
    | ((with_reducible refine WL.isN_call ?_); first | refine WL.step rfl (StepTo.callV (v := .bool true) (us := []) rfl rfl rfl rfl rfl (by kernel_rfl) (fun w hw => frshown_q w) ?_) | refine WL.step rfl (StepTo.callV (v := .bool true) (us := [.slice A n c]) rfl rfl rfl rfl rfl (by kernel_rfl) (fun w hw => sq w (hw.lst 1 Fr.Fp.cs_len (by omega) rfl)) ?_) | refine WL.yld rfl lenQ ?_)
    | ((with_reducible refine WL.isN_alloc ?_); first | refine WL.step rfl (StepTo.allocA rfl rfl rfl rfl (fun _ => ?_)) | refine WL.step rfl (StepTo.alloc1 rfl rfl rfl rfl rfl (fun _ => ?_)))
    | ((with_reducible refine WL.isN_store ?_); first | refine WL.step rfl (StepTo.st1 rfl rfl rfl rfl rfl rfl ?_) | refine WL.step rfl (StepTo.stA rfl rfl rfl rfl rfl rfl rfl ?_) | refine WL.step rfl (StepTo.stR rfl rfl rfl rfl rfl rfl rfl ?_))
    | with_reducible refine WC.block ?_
    | (refine WC.cond rfl (fun hc => ?_) (fun hc => ?_) <;> (try first | (with_reducible replace hc := of_decide_eq_true hc) | (with_reducible replace hc := of_decide_eq_false hc) | (with_reducible replace hc := eqT hc) | (with_reducible replace hc := eqF hc) | (with_reducible replace hc := neT hc) | (with_reducible replace hc := neF hc) | (with_reducible replace hc := noT hc) | (with_reducible replace hc := noF hc)) <;> (try (exfalso; omega))))
  rename_i bB
  refine WC.loop (fun mm τ H => ∃ (i : Nat) (A1 : Option Addr) (n1 c1 : Nat) (b : List Fr.Fp) (inn out : Nat), i ≤ n ∧ mm = n - i ∧ okA A1 n1 ∧ b.length = n1 ∧ n1 ≤ i ∧ Fr.Good b ∧ (∀ x ∈ b, x.tx.length ≤ 1000) ∧ inn = out + Fr.size b ∧ inn ≤ 1000 * i ∧
      τ = [(0, .slice A n c), (5, .pointer (some ⟨bB, 0, none⟩)), (6, .int .i64 (inn : Nat)), (7, .int .i64 (out : Nat)), (8, .int .i64 (i : Nat))] ∧
      H = [.box bB 36 [.slice A1 n1 c1], .vw A1 n1 8 (flat Fr.Fp.cs b), .vw A n 8 (flat Fr.Fp.cs l)]) n _ _ [0, 1, 2] ?_ ?_ ⟨0, none, 0, 0, [], 0, 0, by omega, rfl, okA_nil, rfl, by omega, Fr.Good.nil, by simp, rfl, by omega, rfl, rfl⟩ ?_
  · exact (by repeat (first | exact Sub.nil | refine Sub.cons rfl ?_ | refine Sub.consE rfl (int_eq (by omega)) ?_))
  · exact ⟨by decide, rfl⟩
  rintro mm τ H ⟨i, A1, n1, c1, b, inn, out, hi, rfl, hA1, hbl, hn1, hgb, hbx, hio, hin1, rfl, rfl⟩
  by_cases hin : i < n
  case neg =>
    obtain rfl : i = n := by omega
    repeat' (first
    | refine goS ?_
    | ((with_reducible refine WL.isN_bin ?_); first | refine WL.yld rfl binQ ?_)
    | ((with_reducible refine WL.isN_load ?_); first | refine WL.yld rfl loadQ ?_)
    | ((with_reducible refine WL.isN_iaddr ?_); first | refine WL.yld rfl iaddrQ ?_)
    | ((with_reducible refine WL.isN_build ?_); first | refine WL.yld rfl buildQ ?_)
    | ((with_reducible refine WL.isN_call ?_); first | refine WL.yld rfl lenQ ?_)
    | ((with_reducible refine WL.isN_alloc ?_); first | refine WL.step rfl (StepTo.allocA rfl rfl rfl rfl (fun _ => ?_)) | refine WL.step rfl (StepTo.alloc1 rfl rfl rfl rfl rfl (fun _ => ?_)))
    | ((with_reducible refine WL.isN_store ?_); first | refine WL.step rfl (StepTo.st1 rfl rfl rfl rfl rfl rfl ?_) | refine WL.step rfl (StepTo.stA rfl rfl rfl rfl rfl rfl rfl ?_) | refine WL.step rfl (StepTo.stR rfl rfl rfl rfl rfl rfl rfl ?_))
    | with_reducible refine WC.block ?_
    | (refine WC.cond rfl (fun hc => ?_) (fun hc => ?_) <;> (try first | (with_reducible replace hc := of_decide_eq_true hc) | (with_reducible replace hc := of_decide_eq_false hc) | (with_reducible replace hc := eqT hc) | (with_reducible replace hc := eqF hc) | (with_reducible replace hc := neT hc) | (with_reducible replace hc := neF hc) | (with_reducible replace hc := noT hc) | (with_reducible replace hc := noF hc)) <;> (try (exfalso; omega))))
    exact WQ.body (Reads.tmp rfl rfl) fun w' hw' => ⟨rfl, hw'.ext.below⟩
  obtain ⟨x, hx1⟩ : ∃ x, l[i]? = some x := ⟨_, List.getElem?_eq_getElem (by omega)⟩
  have hxl := hs2 x (List.mem_of_getElem? hx1)
  have hxt := (hx x (List.mem_of_getElem? hx1)).tsn
  have hyp : PartAt (flat Fr.Fp.cs l) (i * 8) x.cs := PartAt.flat Fr.Fp.cs_len hx1
  refine WC.vwAt 2 rfl (by omega) fun bl off hA => ?_
  subst hA
  have hP := Fr.put_puts (p := x) hgb hxt (by omega)
  have cp := fun w {V : Nat → Prop} (hL : Ps w w.heap.size A1 n1 b) (hV : nearV w V A1 n1) => put_w A1 n1 c1 b x w hL hA1 hgb (by omega) (fun x hx => by have := hbx x hx; omega) hxt (by omega) hV
  obtain ⟨⟨b', m, y⟩, hput⟩ : ∃ r, Fr.put b x = r := ⟨_, rfl⟩
  simp only [hput] at cp hP
  have hbx' : ∀ x ∈ b', x.tx.length ≤ 1000 := fun z hz => by
    rcases List.mem_append.1 (hP.sub z hz) with h | h
    · exact hbx z h
    · rw [List.mem_singleton.1 h]; exact hxl
  have hmm := Fr.texts_most hP
  have hln := hP.len
  have hsd := hP.said
  have hsz := hP.size
  have hgb' := hP.good
  clear hP hput
  repeat' (first
    | refine goS ?_
    | ((with_reducible refine WL.isN_bin ?_); first | refine WL.yld rfl binQ ?_)
    | ((with_reducible refine WL.isN_load ?_); first | refine WL.yld rfl loadQ ?_)
    | ((with_reducible refine WL.isN_iaddr ?_); first | refine WL.yld rfl iaddrQ ?_)
    | ((with_reducible refine WL.isN_build ?_); first | refine WL.yld rfl buildQ ?_)
    | ((with_reducible refine WL.isN_call ?_); first | refine WL.yld rfl lenQ ?_)
    | ((with_reducible refine WL.isN_alloc ?_); first | refine WL.step rfl (StepTo.allocA rfl rfl rfl rfl (fun _ => ?_)) | refine WL.step rfl (StepTo.alloc1 rfl rfl rfl rfl rfl (fun _ => ?_)))
    | ((with_reducible refine WL.isN_store ?_); first | refine WL.step rfl (StepTo.st1 rfl rfl rfl rfl rfl rfl ?_) | refine WL.step rfl (StepTo.stA rfl rfl rfl rfl rfl rfl rfl ?_) | refine WL.step rfl (StepTo.stR rfl rfl rfl rfl rfl rfl rfl ?_))
    | with_reducible refine WC.block ?_
    | (refine WC.cond rfl (fun hc => ?_) (fun hc => ?_) <;> (try first | (with_reducible replace hc := of_decide_eq_true hc) | (with_reducible replace hc := of_decide_eq_false hc) | (with_reducible replace hc := eqT hc) | (with_reducible replace hc := eqF hc) | (with_reducible replace hc := neT hc) | (with_reducible replace hc := neF hc) | (with_reducible replace hc := noT hc) | (with_reducible replace hc := noF hc)) <;> (try (exfalso; omega))))
  refine WC.cut (fun τ H => ∃ (A2 : Option Addr) (n2 c2 b9 b10 : Nat), okA A2 n2 ∧ n2 = b'.length ∧ τ = [(0, .slice (some ⟨bl, off, none⟩) n c), (5, .pointer (some ⟨bB, 0, none⟩)), (6, .int .i64 (inn : Nat)), (7, .int .i64 (out : Nat)), (8, .int .i64 (i : Nat)), (9, .pointer (some ⟨b9, 0, none⟩)), (10, .pointer (some ⟨b10, 0, none⟩)), (11, .bool y)] ∧
      H = [.box b9 36 [.slice A2 n2 c2], .box b10 38 m.cs, .vw A2 n2 8 (flat Fr.Fp.cs b'), .box bB 36 [.slice A1 n1 c1], .vw (some ⟨bl, off, none⟩) n 8 (flat Fr.Fp.cs l)]) ?_ ?_
  refine WC.anyI [0, 2] (by kernel_rfl) ?_
  refine WA.take (idx := [0, 2]) 0 rfl (by kernel_rfl) (by kernel_rfl) (by kernel_rfl) rfl ⟨by decide, rfl⟩ (by first | exact Yld.load rfl rfl rfl rfl cellQ | exact Yld.loadAgg rfl rfl rfl rfl rfl aggQ) ?_
  refine WA.take (idx := [0, 2]) 1 rfl (by kernel_rfl) (by kernel_rfl) (by kernel_rfl) rfl ⟨by decide, rfl⟩ (Yld.pure rfl nrmQ) ?_
  refine WA.take (idx := [0, 2]) 2 rfl (by kernel_rfl) (by kernel_rfl) (by kernel_rfl) rfl ⟨by decide, rfl⟩ (Yld.pure rfl nrmQ) ?_
  refine WA.take (idx := [0, 2]) 3 rfl (by kernel_rfl) (by kernel_rfl) (by kernel_rfl) rfl ⟨by decide, rfl⟩ (by first | exact Yld.indexS i rfl rfl rfl rfl rfl rfl hin | exact Yld.indexS 0 rfl rfl rfl rfl rfl rfl (by omega) | exact Yld.indexS 1 rfl rfl rfl rfl rfl rfl (by omega) | exact Yld.indexS 2 rfl rfl rfl rfl rfl rfl (by omega) | exact Yld.indexS _ rfl rfl rfl rfl rfl rfl (by omega) | exact Yld.indexA 0 rfl rfl rfl rfl rfl rfl (by omega) | exact Yld.indexA 1 rfl rfl rfl rfl rfl rfl (by omega) | exact Yld.indexA _ rfl rfl rfl rfl rfl rfl (by omega)) ?_
  refine WA.take (idx := [0, 2]) 4 rfl (by kernel_rfl) (by kernel_rfl) (by kernel_rfl) rfl ⟨by decide, rfl⟩ (by first | exact Yld.load rfl rfl rfl rfl cellQ | exact Yld.loadAgg rfl rfl rfl rfl rfl aggQ) ?_
  refine WA.three 5 10 11 (by kernel_rfl) rfl rfl rfl rfl rfl rfl ?_ ?_ ?_
  · refine StepTo.callN [1] (us := [.agg #[.slice A1 n1 c1], pcv x]) rfl rfl rfl rfl rfl (by kernel_rfl) (fun w hw => cp w (hw.lst 1 Fr.Fp.cs_len (by omega) rfl) (nearV.vs 1 rfl (by simp))) ?_
    rintro v N ⟨A2, n2, c2, rfl, ok2, hn2, rfl⟩
    refine ⟨⟨[1, 3], by decide, rfl⟩, ?_⟩
    refine WA.take (idx := [1, 3]) 6 rfl (by kernel_rfl) (by kernel_rfl) (by kernel_rfl) rfl ⟨by decide, rfl⟩ (Yld.pure rfl nrmQ) ?_
    refine WA.take (idx := [1, 3]) 7 rfl (by kernel_rfl) (by kernel_rfl) (by kernel_rfl) rfl ⟨by decide, rfl⟩ (Yld.pure rfl nrmQ) ?_
    refine WA.take (idx := [1, 3]) 8 rfl (by kernel_rfl) (by kernel_rfl) (by kernel_rfl) rfl ⟨by decide, rfl⟩ (Yld.pure rfl nrmQ) ?_
    refine WA.take (idx := [1, 3]) 9 rfl (by kernel_rfl) (by kernel_rfl) (by kernel_rfl) rfl ⟨by decide, rfl⟩ (Yld.pure rfl nrmQ) ?_
    refine WA.two 10 11 (by kernel_rfl) rfl rfl rfl rfl ?_ ?_
    · first | refine StepTo.allocA rfl rfl rfl rfl (fun _ => ⟨⟨[2, 4], by decide, rfl⟩, ?_⟩) | refine StepTo.alloc1 rfl rfl rfl rfl rfl (fun _ => ⟨⟨[2, 4], by decide, rfl⟩, ?_⟩)
      refine WA.one 11 (by kernel_rfl) rfl rfl ?_
      first | refine StepTo.allocA rfl rfl rfl rfl (fun _ => ⟨⟨[3, 5], by decide, rfl⟩, ?_⟩) | refine StepTo.alloc1 rfl rfl rfl rfl rfl (fun _ => ⟨⟨[3, 5], by decide, rfl⟩, ?_⟩)
      refine WA.one 12 (by kernel_rfl) rfl rfl ?_
      first | refine StepTo.storeA 1 rfl rfl rfl rfl rfl rfl rfl rfl overQ setQ ⟨⟨[3, 5], by decide, rfl⟩, ?_⟩ | refine StepTo.store1 1 rfl rfl rfl rfl rfl rfl rfl overQ setQ ⟨⟨[3, 5], by decide, rfl⟩, ?_⟩
      refine WA.one 13 (by kernel_rfl) rfl rfl ?_
      first | refine StepTo.storeA 0 rfl rfl rfl rfl rfl rfl rfl rfl overQ setQ ⟨⟨[3, 5], by decide, rfl⟩, ?_⟩ | refine StepTo.store1 0 rfl rfl rfl rfl rfl rfl rfl overQ setQ ⟨⟨[3, 5], by decide, rfl⟩, ?_⟩
      refine WA.take (idx := [3, 5]) 14 rfl (by kernel_rfl) (by kernel_rfl) (by kernel_rfl) rfl ⟨by decide, rfl⟩ (Yld.pure rfl nrmQ) ?_
      refine WA.done (by kernel_rfl) ?_
      refine WQ.thenN (WQ.met _ _ [1, 0, 2, 3, 5] (by repeat (first | exact Sub.nil | refine Sub.cons rfl ?_ | refine Sub.consE rfl (int_eq (by omega)) ?_)) ⟨by decide, rfl⟩ ⟨A2, n2, c2, _, _, ok2, hn2, rfl, rfl⟩)
    · first | refine StepTo.allocA rfl rfl rfl rfl (fun _ => ⟨⟨[2, 4], by decide, rfl⟩, ?_⟩) | refine StepTo.alloc1 rfl rfl rfl rfl rfl (fun _ => ⟨⟨[2, 4], by decide, rfl⟩, ?_⟩)
      refine WA.one 10 (by kernel_rfl) rfl rfl ?_
      first | refine StepTo.allocA rfl rfl rfl rfl (fun _ => ⟨⟨[3, 5], by decide, rfl⟩, ?_⟩) | refine StepTo.alloc1 rfl rfl rfl rfl rfl (fun _ => ⟨⟨[3, 5], by decide, rfl⟩, ?_⟩)
      refine WA.one 12 (by kernel_rfl) rfl rfl ?_
      first | refine StepTo.storeA 0 rfl rfl rfl rfl rfl rfl rfl rfl overQ setQ ⟨⟨[3, 5], by decide, rfl⟩, ?_⟩ | refine StepTo.store1 0 rfl rfl rfl rfl rfl rfl rfl overQ setQ ⟨⟨[3, 5], by decide, rfl⟩, ?_⟩
      refine WA.one 13 (by kernel_rfl) rfl rfl ?_
      first | refine StepTo.storeA 1 rfl rfl rfl rfl rfl rfl rfl rfl overQ setQ ⟨⟨[3, 5], by decide, rfl⟩, ?_⟩ | refine StepTo.store1 1 rfl rfl rfl rfl rfl rfl rfl overQ setQ ⟨⟨[3, 5], by decide, rfl⟩, ?_⟩
      refine WA.take (idx := [3, 5]) 14 rfl (by kernel_rfl) (by kernel_rfl) (by kernel_rfl) rfl ⟨by decide, rfl⟩ (Yld.pure rfl nrmQ) ?_
      refine WA.done (by kernel_rfl) ?_
      refine WQ.thenN (WQ.met _ _ [0, 1, 2, 3, 5] (by repeat (first | exact Sub.nil | refine Sub.cons rfl ?_ | refine Sub.consE rfl (int_eq (by omega)) ?_)) ⟨by decide, rfl⟩ ⟨A2, n2, c2, _, _, ok2, hn2, rfl, rfl⟩)
  · first | refine StepTo.allocA rfl rfl rfl rfl (fun _ => ⟨⟨[1, 3], by decide, rfl⟩, ?_⟩) | refine StepTo.alloc1 rfl rfl rfl rfl rfl (fun _ => ⟨⟨[1, 3], by decide, rfl⟩, ?_⟩)
    refine WA.two 5 11 (by kernel_rfl) rfl rfl rfl rfl ?_ ?_
    · refine StepTo.callN [2] (us := [.agg #[.slice A1 n1 c1], pcv x]) rfl rfl rfl rfl rfl (by kernel_rfl) (fun w hw => cp w (hw.lst 2 Fr.Fp.cs_len (by omega) rfl) (nearV.vs 2 rfl (by simp))) ?_
      rintro v N ⟨A2, n2, c2, rfl, ok2, hn2, rfl⟩
      refine ⟨⟨[2, 4], by decide, rfl⟩, ?_⟩
      refine WA.take (idx := [2, 4]) 6 rfl (by kernel_rfl) (by kernel_rfl) (by kernel_rfl) rfl ⟨by decide, rfl⟩ (Yld.pure rfl nrmQ) ?_
      refine WA.take (idx := [2, 4]) 7 rfl (by kernel_rfl) (by kernel_rfl) (by kernel_rfl) rfl ⟨by decide, rfl⟩ (Yld.pure rfl nrmQ) ?_
      refine WA.take (idx := [2, 4]) 8 rfl (by kernel_rfl) (by kernel_rfl) (by kernel_rfl) rfl ⟨by decide, rfl⟩ (Yld.pure rfl nrmQ) ?_
      refine WA.take (idx := [2, 4]) 9 rfl (by kernel_rfl) (by kernel_rfl) (by kernel_rfl) rfl ⟨by decide, rfl⟩ (Yld.pure rfl nrmQ) ?_
      refine WA.one 11 (by kernel_rfl) rfl rfl ?_
      first | refine StepTo.allocA rfl rfl rfl rfl (fun _ => ⟨⟨[3, 5], by decide, rfl⟩, ?_⟩) | refine StepTo.alloc1 rfl rfl rfl rfl rfl (fun _ => ⟨⟨[3, 5], by decide, rfl⟩, ?_⟩)
      refine WA.one 12 (by kernel_rfl) rfl rfl ?_
      first | refine StepTo.storeA 2 rfl rfl rfl rfl rfl rfl rfl rfl overQ setQ ⟨⟨[3, 5], by decide, rfl⟩, ?_⟩ | refine StepTo.store1 2 rfl rfl rfl rfl rfl rfl rfl overQ setQ ⟨⟨[3, 5], by decide, rfl⟩, ?_⟩
      refine WA.one 13 (by kernel_rfl) rfl rfl ?_
      first | refine StepTo.storeA 0 rfl rfl rfl rfl rfl rfl rfl rfl overQ setQ ⟨⟨[3, 5], by decide, rfl⟩, ?_⟩ | refine StepTo.store1 0 rfl rfl rfl rfl rfl rfl rfl overQ setQ ⟨⟨[3, 5], by decide, rfl⟩, ?_⟩
      refine WA.take (idx := [3, 5]) 14 rfl (by kernel_rfl) (by kernel_rfl) (by kernel_rfl) rfl ⟨by decide, rfl⟩ (Yld.pure rfl nrmQ) ?_
      refine WA.done (by kernel_rfl) ?_
      refine WQ.thenN (WQ.met _ _ [2, 0, 1, 3, 5] (by repeat (first | exact Sub.nil | refine Sub.cons rfl ?_ | refine Sub.consE rfl (int_eq (by omega)) ?_)) ⟨by decide, rfl⟩ ⟨A2, n2, c2, _, _, ok2, hn2, rfl, rfl⟩)
    · first | refine StepTo.allocA rfl rfl rfl rfl (fun _ => ⟨⟨[2, 4], by decide, rfl⟩, ?_⟩) | refine StepTo.alloc1 rfl rfl rfl rfl rfl (fun _ => ⟨⟨[2, 4], by decide, rfl⟩, ?_⟩)
      refine WA.one 5 (by kernel_rfl) rfl rfl ?_
      refine StepTo.callN [3] (us := [.agg #[.slice A1 n1 c1], pcv x]) rfl rfl rfl rfl rfl (by kernel_rfl) (fun w hw => cp w (hw.lst 3 Fr.Fp.cs_len (by omega) rfl) (nearV.vs 3 rfl (by simp))) ?_
      rintro v N ⟨A2, n2, c2, rfl, ok2, hn2, rfl⟩
      refine ⟨⟨[3, 5], by decide, rfl⟩, ?_⟩
      refine WA.take (idx := [3, 5]) 6 rfl (by kernel_rfl) (by kernel_rfl) (by kernel_rfl) rfl ⟨by decide, rfl⟩ (Yld.pure rfl nrmQ) ?_
      refine WA.take (idx := [3, 5]) 7 rfl (by kernel_rfl) (by kernel_rfl) (by kernel_rfl) rfl ⟨by decide, rfl⟩ (Yld.pure rfl nrmQ) ?_
      refine WA.take (idx := [3, 5]) 8 rfl (by kernel_rfl) (by kernel_rfl) (by kernel_rfl) rfl ⟨by decide, rfl⟩ (Yld.pure rfl nrmQ) ?_
      refine WA.take (idx := [3, 5]) 9 rfl (by kernel_rfl) (by kernel_rfl) (by kernel_rfl) rfl ⟨by decide, rfl⟩ (Yld.pure rfl nrmQ) ?_
      refine WA.one 12 (by kernel_rfl) rfl rfl ?_
      first | refine StepTo.storeA 2 rfl rfl rfl rfl rfl rfl rfl rfl overQ setQ ⟨⟨[3, 5], by decide, rfl⟩, ?_⟩ | refine StepTo.store1 2 rfl rfl rfl rfl rfl rfl rfl overQ setQ ⟨⟨[3, 5], by decide, rfl⟩, ?_⟩
      refine WA.one 13 (by kernel_rfl) rfl rfl ?_
      first | refine StepTo.storeA 1 rfl rfl rfl rfl rfl rfl rfl rfl overQ setQ ⟨⟨[3, 5], by decide, rfl⟩, ?_⟩ | refine StepTo.store1 1 rfl rfl rfl rfl rfl rfl rfl overQ setQ ⟨⟨[3, 5], by decide, rfl⟩, ?_⟩
      refine WA.take (idx := [3, 5]) 14 rfl (by kernel_rfl) (by kernel_rfl) (by kernel_rfl) rfl ⟨by decide, rfl⟩ (Yld.pure rfl nrmQ) ?_
      refine WA.done (by kernel_rfl) ?_
      refine WQ.thenN (WQ.met _ _ [2, 1, 0, 3, 5] (by repeat (first | exact Sub.nil | refine Sub.cons rfl ?_ | refine Sub.consE rfl (int_eq (by omega)) ?_)) ⟨by decide, rfl⟩ ⟨A2, n2, c2, _, _, ok2, hn2, rfl, rfl⟩)
  · first | refine StepTo.allocA rfl rfl rfl rfl (fun _ => ⟨⟨[1, 3], by decide, rfl⟩, ?_⟩) | refine StepTo.alloc1 rfl rfl rfl rfl rfl (fun _ => ⟨⟨[1, 3], by decide, rfl⟩, ?_⟩)
    refine WA.two 5 10 (by kernel_rfl) rfl rfl rfl rfl ?_ ?_
    · refine StepTo.callN [2] (us := [.agg #[.slice A1 n1 c1], pcv x]) rfl rfl rfl rfl rfl (by kernel_rfl) (fun w hw => cp w (hw.lst 2 Fr.Fp.cs_len (by omega) rfl) (nearV.vs 2 rfl (by simp))) ?_
      rintro v N ⟨A2, n2, c2, rfl, ok2, hn2, rfl⟩
      refine ⟨⟨[2, 4], by decide, rfl⟩, ?_⟩
      refine WA.take (idx := [2, 4]) 6 rfl (by kernel_rfl) (by kernel_rfl) (by kernel_rfl) rfl ⟨by decide, rfl⟩ (Yld.pure rfl nrmQ) ?_
      refine WA.take (idx := [2, 4]) 7 rfl (by kernel_rfl) (by kernel_rfl) (by kernel_rfl) rfl ⟨by decide, rfl⟩ (Yld.pure rfl nrmQ) ?_
      refine WA.take (idx := [2, 4]) 8 rfl (by kernel_rfl) (by kernel_rfl) (by kernel_rfl) rfl ⟨by decide, rfl⟩ (Yld.pure rfl nrmQ) ?_
      refine WA.take (idx := [2, 4]) 9 rfl (by kernel_rfl) (by kernel_rfl) (by kernel_rfl) rfl ⟨by decide, rfl⟩ (Yld.pure rfl nrmQ) ?_
      refine WA.one 10 (by kernel_rfl) rfl rfl ?_
      first | refine StepTo.allocA rfl rfl rfl rfl (fun _ => ⟨⟨[3, 5], by decide, rfl⟩, ?_⟩) | refine StepTo.alloc1 rfl rfl rfl rfl rfl (fun _ => ⟨⟨[3, 5], by decide, rfl⟩, ?_⟩)
      refine WA.one 12 (by kernel_rfl) rfl rfl ?_
      first | refine StepTo.storeA 0 rfl rfl rfl rfl rfl rfl rfl rfl overQ setQ ⟨⟨[3, 5], by decide, rfl⟩, ?_⟩ | refine StepTo.store1 0 rfl rfl rfl rfl rfl rfl rfl overQ setQ ⟨⟨[3, 5], by decide, rfl⟩, ?_⟩
      refine WA.one 13 (by kernel_rfl) rfl rfl ?_
      first | refine StepTo.storeA 2 rfl rfl rfl rfl rfl rfl rfl rfl overQ setQ ⟨⟨[3, 5], by decide, rfl⟩, ?_⟩ | refine StepTo.store1 2 rfl rfl rfl rfl rfl rfl rfl overQ setQ ⟨⟨[3, 5], by decide, rfl⟩, ?_⟩
      refine WA.take (idx := [3, 5]) 14 rfl (by kernel_rfl) (by kernel_rfl) (by kernel_rfl) rfl ⟨by decide, rfl⟩ (Yld.pure rfl nrmQ) ?_
      refine WA.done (by kernel_rfl) ?_
      refine WQ.thenN (WQ.met _ _ [0, 2, 1, 3, 5] (by repeat (first | exact Sub.nil | refine Sub.cons rfl ?_ | refine Sub.consE rfl (int_eq (by omega)) ?_)) ⟨by decide, rfl⟩ ⟨A2, n2, c2, _, _, ok2, hn2, rfl, rfl⟩)
    · first | refine StepTo.allocA rfl rfl rfl rfl (fun _ => ⟨⟨[2, 4], by decide, rfl⟩, ?_⟩) | refine StepTo.alloc1 rfl rfl rfl rfl rfl (fun _ => ⟨⟨[2, 4], by decide, rfl⟩, ?_⟩)
      refine WA.one 5 (by kernel_rfl) rfl rfl ?_
      refine StepTo.callN [3] (us := [.agg #[.slice A1 n1 c1], pcv x]) rfl rfl rfl rfl rfl (by kernel_rfl) (fun w hw => cp w (hw.lst 3 Fr.Fp.cs_len (by omega) rfl) (nearV.vs 3 rfl (by simp))) ?_
      rintro v N ⟨A2, n2, c2, rfl, ok2, hn2, rfl⟩
      refine ⟨⟨[3, 5], by decide, rfl⟩, ?_⟩
      refine WA.take (idx := [3, 5]) 6 rfl (by kernel_rfl) (by kernel_rfl) (by kernel_rfl) rfl ⟨by decide, rfl⟩ (Yld.pure rfl nrmQ) ?_
      refine WA.take (idx := [3, 5]) 7 rfl (by kernel_rfl) (by kernel_rfl) (by kernel_rfl) rfl ⟨by decide, rfl⟩ (Yld.pure rfl nrmQ) ?_
      refine WA.take (idx := [3, 5]) 8 rfl (by kernel_rfl) (by kernel_rfl) (by kernel_rfl) rfl ⟨by decide, rfl⟩ (Yld.pure rfl nrmQ) ?_
      refine WA.take (idx := [3, 5]) 9 rfl (by kernel_rfl) (by kernel_rfl) (by kernel_rfl) rfl ⟨by decide, rfl⟩ (Yld.pure rfl nrmQ) ?_
      refine WA.one 12 (by kernel_rfl) rfl rfl ?_
      first | refine StepTo.storeA 1 rfl rfl rfl rfl rfl rfl rfl rfl overQ setQ ⟨⟨[3, 5], by decide, rfl⟩, ?_⟩ | refine StepTo.store1 1 rfl rfl rfl rfl rfl rfl rfl overQ setQ ⟨⟨[3, 5], by decide, rfl⟩, ?_⟩
      refine WA.one 13 (by kernel_rfl) rfl rfl ?_
      first | refine StepTo.storeA 2 rfl rfl rfl rfl rfl rfl rfl rfl overQ setQ ⟨⟨[3, 5], by decide, rfl⟩, ?_⟩ | refine StepTo.store1 2 rfl rfl rfl rfl rfl rfl rfl overQ setQ ⟨⟨[3, 5], by decide, rfl⟩, ?_⟩
      refine WA.take (idx := [3, 5]) 14 rfl (by kernel_rfl) (by kernel_rfl) (by kernel_rfl) rfl ⟨by decide, rfl⟩ (Yld.pure rfl nrmQ) ?_
      refine WA.done (by kernel_rfl) ?_
      refine WQ.thenN (WQ.met _ _ [1, 2, 0, 3, 5] (by repeat (first | exact Sub.nil | refine Sub.cons rfl ?_ | refine Sub.consE rfl (int_eq (by omega)) ?_)) ⟨by decide, rfl⟩ ⟨A2, n2, c2, _, _, ok2, hn2, rfl, rfl⟩)
  rintro τ H ⟨A2, n2, c2, b9, b10, ok2, hn2, rfl, rfl⟩
  have bq := fun w hL => bytes_q A2 n2 c2 b' w hL (by omega) (fun x hx => by have := hbx' x hx; omega)
  have hsm := size_max (l := b') (fun x hx => by have := hbx' x hx; omega)
  have htx : Value.bool (!(m.tx == [])) = .bool y := by rw [hsd]
  have e0 : ((out : Nat) : Int) + (m.tx.length : Int) = ((out + m.tx.length : Nat) : Int) := by omega
  have hm1 : m.tx.length ≤ 1000 * 61 := by
    have := size_max (l := b) (fun x hx => by have := hbx x hx; omega)
    have h2 : Fr.size b ≤ inn := by omega
    omega
  by_cases hy : y = true ∨ n1 < n2
  · rw [if_pos (by rw [hbl, ← hn2]; exact hy)] at hsz
    have e1 : ((inn : Nat) : Int) + (x.tx.length : Int) = ((inn + x.tx.length : Nat) : Int) := by omega
    cases y with
    | true =>
      repeat' (first
    | refine goS ?_
    | ((with_reducible refine WL.isN_bin ?_); first | refine WL.yld rfl (Yld.as (Yld.neS (t := []) rfl rfl rfl) htx) ?_ | refine WL.yld rfl binQ ?_)
    | ((with_reducible refine WL.isN_load ?_); first | refine WL.yld rfl loadQ ?_)
    | ((with_reducible refine WL.isN_iaddr ?_); first | refine WL.yld rfl (Yld.indexS i rfl rfl rfl rfl rfl rfl hin) ?_ | refine WL.yld rfl iaddrQ ?_)
    | ((with_reducible refine WL.isN_build ?_); first | refine WL.yld rfl buildQ ?_)
    | ((with_reducible refine WL.isN_call ?_); first | refine WL.yld rfl (Yld.lenB rfl rfl rfl) ?_ | refine WL.step rfl (StepTo.callV (v := .int .i64 (Fr.size b' : Nat)) (us := [.agg #[.slice A2 n2 c2]]) rfl rfl rfl rfl rfl (by kernel_rfl) (fun w hw => bq w (hw.lst 2 Fr.Fp.cs_len (by omega) rfl)) ?_) | refine WL.yld rfl lenQ ?_)
    | ((with_reducible refine WL.isN_alloc ?_); first | refine WL.step rfl (StepTo.allocA rfl rfl rfl rfl (fun _ => ?_)) | refine WL.step rfl (StepTo.alloc1 rfl rfl rfl rfl rfl (fun _ => ?_)))
    | ((with_reducible refine WL.isN_store ?_); first | refine WL.step rfl (StepTo.st1 rfl rfl rfl rfl rfl rfl ?_) | refine WL.step rfl (StepTo.stA rfl rfl rfl rfl rfl rfl rfl ?_) | refine WL.step rfl (StepTo.stR rfl rfl rfl rfl rfl rfl rfl ?_))
    | with_reducible refine WC.block ?_
    | (refine WC.cond rfl (fun hc => ?_) (fun hc => ?_) <;> (try first | (with_reducible replace hc := of_decide_eq_true hc) | (with_reducible replace hc := of_decide_eq_false hc) | (with_reducible replace hc := eqT hc) | (with_reducible replace hc := eqF hc) | (with_reducible replace hc := neT hc) | (with_reducible replace hc := neF hc) | (with_reducible replace hc := noT hc) | (with_reducible replace hc := noF hc)) <;> (try (exfalso; omega))))
      rw [e0, e1]
      exact WQ.rnd (n - (i + 1)) _ _ [3, 2, 4] (by repeat (first | exact Sub.nil | refine Sub.cons rfl ?_ | refine Sub.consE rfl (int_eq (by omega)) ?_)) ⟨by decide, rfl⟩ (by omega) ⟨i + 1, A2, n2, c2, b', inn + x.tx.length, out + m.tx.length, by omega, rfl, ok2, hn2.symm, by omega, hgb', hbx', by omega, by omega, rfl, rfl⟩
    | false =>
      have hn12 : n1 < n2 := hy.resolve_left (by simp)
      repeat' (first
    | refine goS ?_
    | ((with_reducible refine WL.isN_bin ?_); first | refine WL.yld rfl (Yld.as (Yld.neS (t := []) rfl rfl rfl) htx) ?_ | refine WL.yld rfl binQ ?_)
    | ((with_reducible refine WL.isN_load ?_); first | refine WL.yld rfl loadQ ?_)
    | ((with_reducible refine WL.isN_iaddr ?_); first | refine WL.yld rfl (Yld.indexS i rfl rfl rfl rfl rfl rfl hin) ?_ | refine WL.yld rfl iaddrQ ?_)
    | ((with_reducible refine WL.isN_build ?_); first | refine WL.yld rfl buildQ ?_)
    | ((with_reducible refine WL.isN_call ?_); first | refine WL.yld rfl (Yld.lenB rfl rfl rfl) ?_ | refine WL.step rfl (StepTo.callV (v := .int .i64 (Fr.size b' : Nat)) (us := [.agg #[.slice A2 n2 c2]]) rfl rfl rfl rfl rfl (by kernel_rfl) (fun w hw => bq w (hw.lst 2 Fr.Fp.cs_len (by omega) rfl)) ?_) | refine WL.yld rfl lenQ ?_)
    | ((with_reducible refine WL.isN_alloc ?_); first | refine WL.step rfl (StepTo.allocA rfl rfl rfl rfl (fun _ => ?_)) | refine WL.step rfl (StepTo.alloc1 rfl rfl rfl rfl rfl (fun _ => ?_)))
    | ((with_reducible refine WL.isN_store ?_); first | refine WL.step rfl (StepTo.st1 rfl rfl rfl rfl rfl rfl ?_) | refine WL.step rfl (StepTo.stA rfl rfl rfl rfl rfl rfl rfl ?_) | refine WL.step rfl (StepTo.stR rfl rfl rfl rfl rfl rfl rfl ?_))
    | with_reducible refine WC.block ?_
    | (refine WC.cond rfl (fun hc => ?_) (fun hc => ?_) <;> (try first | (with_reducible replace hc := of_decide_eq_true hc) | (with_reducible replace hc := of_decide_eq_false hc) | (with_reducible replace hc := eqT hc) | (with_reducible replace hc := eqF hc) | (with_reducible replace hc := neT hc) | (with_reducible replace hc := neF hc) | (with_reducible replace hc := noT hc) | (with_reducible replace hc := noF hc)) <;> (try (exfalso; omega))))
      rw [e0, e1]
      exact WQ.rnd (n - (i + 1)) _ _ [3, 2, 4] (by repeat (first | exact Sub.nil | refine Sub.cons rfl ?_ | refine Sub.consE rfl (int_eq (by omega)) ?_)) ⟨by decide, rfl⟩ (by omega) ⟨i + 1, A2, n2, c2, b', inn + x.tx.length, out + m.tx.length, by omega, rfl, ok2, hn2.symm, by omega, hgb', hbx', by omega, by omega, rfl, rfl⟩
  · rw [if_neg (by rw [hbl, ← hn2]; exact hy)] at hsz
    cases y with
    | true => exact absurd (.inl rfl) hy
    | false =>
    have hn12 : ¬ n1 < n2 := fun h => hy (.inr h)
    repeat' (first
    | refine goS ?_
    | ((with_reducible refine WL.isN_bin ?_); first | refine WL.yld rfl (Yld.as (Yld.neS (t := []) rfl rfl rfl) htx) ?_ | refine WL.yld rfl binQ ?_)
    | ((with_reducible refine WL.isN_load ?_); first | refine WL.yld rfl loadQ ?_)
    | ((with_reducible refine WL.isN_iaddr ?_); first | refine WL.yld rfl (Yld.indexS i rfl rfl rfl rfl rfl rfl hin) ?_ | refine WL.yld rfl iaddrQ ?_)
    | ((with_reducible refine WL.isN_build ?_); first | refine WL.yld rfl buildQ ?_)
    | ((with_reducible refine WL.isN_call ?_); first | refine WL.yld rfl (Yld.lenB rfl rfl rfl) ?_ | refine WL.step rfl (StepTo.callV (v := .int .i64 (Fr.size b' : Nat)) (us := [.agg #[.slice A2 n2 c2]]) rfl rfl rfl rfl rfl (by kernel_rfl) (fun w hw => bq w (hw.lst 2 Fr.Fp.cs_len (by omega) rfl)) ?_) | refine WL.yld rfl lenQ ?_)
    | ((with_reducible refine WL.isN_alloc ?_); first | refine WL.step rfl (StepTo.allocA rfl rfl rfl rfl (fun _ => ?_)) | refine WL.step rfl (StepTo.alloc1 rfl rfl rfl rfl rfl (fun _ => ?_)))
    | ((with_reducible refine WL.isN_store ?_); first | refine WL.step rfl (StepTo.st1 rfl rfl rfl rfl rfl rfl ?_) | refine WL.step rfl (StepTo.stA rfl rfl rfl rfl rfl rfl rfl ?_) | refine WL.step rfl (StepTo.stR rfl rfl rfl rfl rfl rfl rfl ?_))
    | with_reducible refine WC.block ?_
    | (refine WC.cond rfl (fun hc => ?_) (fun hc => ?_) <;> (try first | (with_reducible replace hc := of_decide_eq_true hc) | (with_reducible replace hc := of_decide_eq_false hc) | (with_reducible replace hc := eqT hc) | (with_reducible replace hc := eqF hc) | (with_reducible replace hc := neT hc) | (with_reducible replace hc := neF hc) | (with_reducible replace hc := noT hc) | (with_reducible replace hc := noF hc)) <;> (try (exfalso; omega))))
    rw [e0]
    exact WQ.rnd (n - (i + 1)) _ _ [3, 2, 4] (by repeat (first | exact Sub.nil | refine Sub.cons rfl ?_ | refine Sub.consE rfl (int_eq (by omega)) ?_)) ⟨by decide, rfl⟩ (by omega) ⟨i + 1, A2, n2, c2, b', inn, out + m.tx.length, by omega, rfl, ok2, hn2.symm, by omega, hgb', hbx', by omega, by omega, rfl, rfl⟩
end Go.Proofs.Ytaopomedbbcgcaa
