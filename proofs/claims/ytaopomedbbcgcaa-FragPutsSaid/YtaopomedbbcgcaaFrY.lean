/- The law FragShares. -/
import Derived.Test.YtaopomedbbcgcaaFrX
namespace Go.Proofs.Ytaopomedbbcgcaa
open Go.RowKit Go.IntWalk
set_option linter.unusedVariables false
set_option linter.unusedSimpArgs false
set_option linter.unusedSectionVars false
set_option maxRecDepth 100000

section
variable {P : Program} {w0 : World} {D : Nat → Prop} {n : Nat} [Dfr] {τ : Tm} {H : List Item} {o : Oper}
theorem Yld.eqlSame {T u : Nat} {x y : Operand} {xs ys : List Value} {r : Bool} (d : Nat) (ho : o.op = .binOp .eql T x y u) (hx : evl τ x = some (.agg xs.toArray)) (hy : evl τ y = some (.agg ys.toArray)) (hg : P.eqGuardType P.depth T = false) (hk : eqOkB P d T = true) (hd : Nat.ble d 10000 = true)
    (hr : eqTy P d T (.agg xs.toArray) (.agg ys.toArray) = some r) (e : r = true) : Yld P w0 D n o τ H (.bool true) := e ▸ Yld.eqlA d ho hx hy hg hk hd hr
theorem Yld.neqSame {T u : Nat} {x y : Operand} {xs ys : List Value} {r : Bool} (d : Nat) (ho : o.op = .binOp .neq T x y u) (hx : evl τ x = some (.agg xs.toArray)) (hy : evl τ y = some (.agg ys.toArray)) (hg : P.eqGuardType P.depth T = false) (hk : eqOkB P d T = true) (hd : Nat.ble d 10000 = true)
    (hr : eqTy P d T (.agg xs.toArray) (.agg ys.toArray) = some r) (e : r = true) : Yld P w0 D n o τ H (.bool false) := by
  subst e
  exact Yld.neqA d ho hx hy hg hk hd hr
end
set_option maxHeartbeats 8000000 in
theorem fragShares_walk (A : Option Addr) (n c : Nat) (l : List Fr.Fp) (p q : Fr.Fp) (w : World) (hL : Ps w w.heap.size A n l) (hx : ∀ x ∈ l, x.In) (hp : p.In) (hq : q.In) :
    Calls Try.prog 7 #[.slice A n c, pcv p, pcv q] w fun e w' => e = .returned (.bool true) ∧ Below w.heap.size w w' := by
  have hl := hL.len
  have sq := fun w hL => small_q A n c l w hL
  cases hs : smallB l with
  | false =>
    rw [hs] at sq
    refine enterW (fun _ => False) _ Try.func7 rfl (by simp only [Try.ntmps7, List.length_cons, List.length_nil, Nat.reduceAdd, Nat.reduceSub]; rfl) ?_
    refine WC.addVw Fr.Fp.cs_len hL ?_
    repeat' (first
    | refine goS ?_
    | ((with_reducible refine WL.isN_bin ?_); first | refine WL.yld rfl binQ ?_)
    | ((with_reducible refine WL.isN_load ?_); first | refine WL.yld rfl loadQ ?_)
    | ((with_reducible refine WL.isN_iaddr ?_); first | refine WL.yld rfl iaddrQ ?_)
    | ((with_reducible refine WL.isN_build ?_); first | refine WL.yld rfl buildQ ?_)
    | ((with_reducible refine WL.isN_call ?_); first | refine WL.step rfl (StepTo.callV (v := .bool true) (us := []) rfl rfl rfl rfl rfl (by kernel_rfl) (fun w hw => frshown_q w) ?_) | refine WL.step rfl (StepTo.callV (v := .bool false) (us := [.slice A n c]) rfl rfl rfl rfl rfl (by kernel_rfl) (fun w hw => sq w (hw.lst 2 Fr.Fp.cs_len (by omega) rfl)) ?_) | refine WL.yld rfl lenQ ?_)
    | ((with_reducible refine WL.isN_box ?_); first | refine WL.step rfl (StepTo.boxA rfl rfl rfl rfl (fun _ => ?_)) | refine WL.step rfl (StepTo.box1 rfl rfl rfl rfl rfl (fun _ => ?_)))
    | ((with_reducible refine WL.isN_alloc ?_); first | refine WL.step rfl (StepTo.allocA rfl rfl rfl rfl (fun _ => ?_)) | refine WL.step rfl (StepTo.alloc1 rfl rfl rfl rfl rfl (fun _ => ?_)))
    | ((with_reducible refine WL.isN_store ?_); first | refine WL.step rfl (StepTo.st1 rfl rfl rfl rfl rfl rfl ?_) | refine WL.step rfl (StepTo.stA rfl rfl rfl rfl rfl rfl rfl ?_) | refine WL.step rfl (StepTo.stR rfl rfl rfl rfl rfl rfl rfl ?_))
    | with_reducible refine WC.block ?_
    | (refine WC.cond rfl (fun hc => ?_) (fun hc => ?_) <;> (try first | (with_reducible replace hc := of_decide_eq_true hc) | (with_reducible replace hc := of_decide_eq_false hc) | (with_reducible replace hc := eqT hc) | (with_reducible replace hc := eqF hc) | (with_reducible replace hc := neT hc) | (with_reducible replace hc := neF hc) | (with_reducible replace hc := noT hc) | (with_reducible replace hc := noF hc)) <;> (try (exfalso; omega))))
    exact WQ.body (Reads.tmp rfl rfl) fun w' hw' => ⟨rfl, hw'.ext.below⟩
  | true =>
  rw [hs] at sq
  obtain ⟨hs1, hs2⟩ := smallB_iff.1 hs
  by_cases gp : p.tx.length ≤ 1000
  case neg =>
    refine enterW (fun _ => False) _ Try.func7 rfl (by simp only [Try.ntmps7, List.length_cons, List.length_nil, Nat.reduceAdd, Nat.reduceSub]; rfl) ?_
    refine WC.addVw Fr.Fp.cs_len hL ?_
    repeat' (first
    | refine goS ?_
    | ((with_reducible refine WL.isN_bin ?_); first | refine WL.yld rfl binQ ?_)
    | ((with_reducible refine WL.isN_load ?_); first | refine WL.yld rfl loadQ ?_)
    | ((with_reducible refine WL.isN_iaddr ?_); first | refine WL.yld rfl iaddrQ ?_)
    | ((with_reducible refine WL.isN_build ?_); first | refine WL.yld rfl buildQ ?_)
    | ((with_reducible refine WL.isN_call ?_); first | refine WL.step rfl (StepTo.callV (v := .bool true) (us := []) rfl rfl rfl rfl rfl (by kernel_rfl) (fun w hw => frshown_q w) ?_) | refine WL.step rfl (StepTo.callV (v := .bool true) (us := [.slice A n c]) rfl rfl rfl rfl rfl (by kernel_rfl) (fun w hw => sq w (hw.lst 2 Fr.Fp.cs_len (by omega) rfl)) ?_) | refine WL.yld rfl (Yld.lenB rfl rfl rfl) ?_ | refine WL.yld rfl lenQ ?_)
    | ((with_reducible refine WL.isN_box ?_); first | refine WL.step rfl (StepTo.boxA rfl rfl rfl rfl (fun _ => ?_)) | refine WL.step rfl (StepTo.box1 rfl rfl rfl rfl rfl (fun _ => ?_)))
    | ((with_reducible refine WL.isN_alloc ?_); first | refine WL.step rfl (StepTo.allocA rfl rfl rfl rfl (fun _ => ?_)) | refine WL.step rfl (StepTo.alloc1 rfl rfl rfl rfl rfl (fun _ => ?_)))
    | ((with_reducible refine WL.isN_store ?_); first | refine WL.step rfl (StepTo.st1 rfl rfl rfl rfl rfl rfl ?_) | refine WL.step rfl (StepTo.stA rfl rfl rfl rfl rfl rfl rfl ?_) | refine WL.step rfl (StepTo.stR rfl rfl rfl rfl rfl rfl rfl ?_))
    | with_reducible refine WC.block ?_
    | (refine WC.cond rfl (fun hc => ?_) (fun hc => ?_) <;> (try first | (with_reducible replace hc := of_decide_eq_true hc) | (with_reducible replace hc := of_decide_eq_false hc) | (with_reducible replace hc := eqT hc) | (with_reducible replace hc := eqF hc) | (with_reducible replace hc := neT hc) | (with_reducible replace hc := neF hc) | (with_reducible replace hc := noT hc) | (with_reducible replace hc := noF hc)) <;> (try (exfalso; omega))))
    exact WQ.body (Reads.tmp rfl rfl) fun w' hw' => ⟨rfl, hw'.ext.below⟩
  by_cases gq : q.tx.length ≤ 1000
  case neg =>
    refine enterW (fun _ => False) _ Try.func7 rfl (by simp only [Try.ntmps7, List.length_cons, List.length_nil, Nat.reduceAdd, Nat.reduceSub]; rfl) ?_
    refine WC.addVw Fr.Fp.cs_len hL ?_
    repeat' (first
    | refine goS ?_
    | ((with_reducible refine WL.isN_bin ?_); first | refine WL.yld rfl binQ ?_)
    | ((with_reducible refine WL.isN_load ?_); first | refine WL.yld rfl loadQ ?_)
    | ((with_reducible refine WL.isN_iaddr ?_); first | refine WL.yld rfl iaddrQ ?_)
    | ((with_reducible refine WL.isN_build ?_); first | refine WL.yld rfl buildQ ?_)
    | ((with_reducible refine WL.isN_call ?_); first | refine WL.step rfl (StepTo.callV (v := .bool true) (us := []) rfl rfl rfl rfl rfl (by kernel_rfl) (fun w hw => frshown_q w) ?_) | refine WL.step rfl (StepTo.callV (v := .bool true) (us := [.slice A n c]) rfl rfl rfl rfl rfl (by kernel_rfl) (fun w hw => sq w (hw.lst 2 Fr.Fp.cs_len (by omega) rfl)) ?_) | refine WL.yld rfl (Yld.lenB rfl rfl rfl) ?_ | refine WL.yld rfl lenQ ?_)
    | ((with_reducible refine WL.isN_box ?_); first | refine WL.step rfl (StepTo.boxA rfl rfl rfl rfl (fun _ => ?_)) | refine WL.step rfl (StepTo.box1 rfl rfl rfl rfl rfl (fun _ => ?_)))
    | ((with_reducible refine WL.isN_alloc ?_); first | refine WL.step rfl (StepTo.allocA rfl rfl rfl rfl (fun _ => ?_)) | refine WL.step rfl (StepTo.alloc1 rfl rfl rfl rfl rfl (fun _ => ?_)))
    | ((with_reducible refine WL.isN_store ?_); first | refine WL.step rfl (StepTo.st1 rfl rfl rfl rfl rfl rfl ?_) | refine WL.step rfl (StepTo.stA rfl rfl rfl rfl rfl rfl rfl ?_) | refine WL.step rfl (StepTo.stR rfl rfl rfl rfl rfl rfl rfl ?_))
    | with_reducible refine WC.block ?_
    | (refine WC.cond rfl (fun hc => ?_) (fun hc => ?_) <;> (try first | (with_reducible replace hc := of_decide_eq_true hc) | (with_reducible replace hc := of_decide_eq_false hc) | (with_reducible replace hc := eqT hc) | (with_reducible replace hc := eqF hc) | (with_reducible replace hc := neT hc) | (with_reducible replace hc := neF hc) | (with_reducible replace hc := noT hc) | (with_reducible replace hc := noF hc)) <;> (try (exfalso; omega))))
    exact WQ.body (Reads.tmp rfl rfl) fun w' hw' => ⟨rfl, hw'.ext.below⟩
  refine enterW (fun _ => False) _ Try.func7 rfl (by simp only [Try.ntmps7, List.length_cons, List.length_nil, Nat.reduceAdd, Nat.reduceSub]; rfl) ?_
  refine WC.addVw Fr.Fp.cs_len hL ?_
  refine WC.nilVw 8 ?_
  repeat' (first
    | refine goS ?_
    | ((with_reducible refine WL.isN_bin ?_); first | refine WL.yld rfl binQ ?_)
    | ((with_reducible refine WL.isN_load ?_); first | refine WL.yld rfl loadQ ?_)
    | ((with_reducible refine WL.isN_iaddr ?_); first | refine WL.yld rfl iaddrQ ?_)
    | ((with_reducible refine WL.isN_build ?_); first | refine WL.yld rfl (Yld.build (cells := #[.slice none 0 0]) rfl rfl rfl) ?_ | refine WL.yld rfl buildQ ?_)
    | ((with_reducible refine WL.isN_call ?_); first | refine WL.step rfl (StepTo.callV (v := .bool true) (us := []) rfl rfl rfl rfl rfl (by kernel_rfl) (fun w hw => frshown_q w) ?_) | refine WL.step rfl (StepTo.callV (v := .bool true) (us := [.slice A n c]) rfl rfl rfl rfl rfl (by kernel_rfl) (fun w hw => sq w (hw.lst 3 Fr.Fp.cs_len (by omega) rfl)) ?_) | refine WL.yld rfl (Yld.lenB rfl rfl rfl) ?_ | refine WL.yld rfl lenQ ?_)
    | ((with_reducible refine WL.isN_box ?_); first | refine WL.step rfl (StepTo.boxA rfl rfl rfl rfl (fun _ => ?_)) | refine WL.step rfl (StepTo.box1 rfl rfl rfl rfl rfl (fun _ => ?_)))
    | ((with_reducible refine WL.isN_alloc ?_); first | refine WL.step rfl (StepTo.allocA rfl rfl rfl rfl (fun _ => ?_)) | refine WL.step rfl (StepTo.alloc1 rfl rfl rfl rfl rfl (fun _ => ?_)))
    | ((with_reducible refine WL.isN_store ?_); first | refine WL.step rfl (StepTo.st1 rfl rfl rfl rfl rfl rfl ?_) | refine WL.step rfl (StepTo.stA rfl rfl rfl rfl rfl rfl rfl ?_) | refine WL.step rfl (StepTo.stR rfl rfl rfl rfl rfl rfl rfl ?_))
    | with_reducible refine WC.block ?_
    | (refine WC.cond rfl (fun hc => ?_) (fun hc => ?_) <;> (try first | (with_reducible replace hc := of_decide_eq_true hc) | (with_reducible replace hc := of_decide_eq_false hc) | (with_reducible replace hc := eqT hc) | (with_reducible replace hc := eqF hc) | (with_reducible replace hc := neT hc) | (with_reducible replace hc := neF hc) | (with_reducible replace hc := noT hc) | (with_reducible replace hc := noF hc)) <;> (try (exfalso; omega))))
  rename_i bP bQ bB
  refine WC.loop (fun mm τ H => ∃ (i : Nat) (A1 : Option Addr) (n1 c1 : Nat) (b : List Fr.Fp), i ≤ n ∧ mm = n - i ∧ okA A1 n1 ∧ b.length = n1 ∧ n1 ≤ i ∧ Fr.Good b ∧ (∀ x ∈ b, x.tx.length ≤ 1000) ∧
      τ = [(0, .slice A n c), (4, .pointer (some ⟨bP, 0, none⟩)), (5, .pointer (some ⟨bQ, 0, none⟩)), (9, .pointer (some ⟨bB, 0, none⟩)), (10, .int .i64 (i : Nat))] ∧
      H = [.box bB 36 [.slice A1 n1 c1], .vw A1 n1 8 (flat Fr.Fp.cs b), .vw A n 8 (flat Fr.Fp.cs l), .box bQ 34 q.cs, .box bP 34 p.cs]) n _ _ [0, 3, 4, 1, 2] ?_ ?_ ⟨0, none, 0, 0, [], by omega, rfl, okA_nil, rfl, by omega, Fr.Good.nil, by simp, rfl, rfl⟩ ?_
  · exact (by repeat (first | exact Sub.nil | refine Sub.cons rfl ?_ | refine Sub.consE rfl (int_eq (by omega)) ?_))
  · exact ⟨by decide, rfl⟩
  rintro mm τ H ⟨i, A1, n1, c1, b, hi, rfl, hA1, hbl, hn1, hgb, hbx, rfl, rfl⟩
  by_cases hin : i < n
  · obtain ⟨x, hx1⟩ : ∃ x, l[i]? = some x := ⟨_, List.getElem?_eq_getElem (by omega)⟩
    have hxl := hs2 x (List.mem_of_getElem? hx1)
    have hxt := (hx x (List.mem_of_getElem? hx1)).tsn
    have hyp : PartAt (flat Fr.Fp.cs l) (i * 8) x.cs := PartAt.flat Fr.Fp.cs_len hx1
    refine WC.vwAt 2 rfl (by omega) fun bl off hA => ?_
    subst hA
    have hP := Fr.put_puts (p := x) hgb hxt (by omega)
    have cp := fun w {V : Nat → Prop} (hL : Ps w w.heap.size A1 n1 b) (hV : nearV w V A1 n1) => put_w A1 n1 c1 b x w hL hA1 hgb (by omega) (fun x hx => by have := hbx x hx; omega) hxt (by omega) hV
    obtain ⟨⟨b', m, y⟩, hput⟩ : ∃ r, Fr.put b x = r := ⟨_, rfl⟩
    simp only [hput] at cp hP
    have hbx' : ∀ x ∈ b', x.tx.length ≤ 1000 := fun z hz => by
      rcases List.mem_append.1 (hP.sub z hz) with h | h
      · exact hbx z h
      · rw [List.mem_singleton.1 h]; exact hxl
    have hln := hP.len
    have hgb' := hP.good
    clear hP hput
    repeat' (first
    | refine goS ?_
    | ((with_reducible refine WL.isN_bin ?_); first | refine WL.yld rfl binQ ?_)
    | ((with_reducible refine WL.isN_load ?_); first | refine WL.yld rfl loadQ ?_)
    | ((with_reducible refine WL.isN_iaddr ?_); first | refine WL.yld rfl iaddrQ ?_)
    | ((with_reducible refine WL.isN_build ?_); first | refine WL.yld rfl buildQ ?_)
    | ((with_reducible refine WL.isN_call ?_); first | refine WL.yld rfl lenQ ?_)
    | ((with_reducible refine WL.isN_box ?_); first | refine WL.step rfl (StepTo.boxA rfl rfl rfl rfl (fun _ => ?_)) | refine WL.step rfl (StepTo.box1 rfl rfl rfl rfl rfl (fun _ => ?_)))
    | ((with_reducible refine WL.isN_alloc ?_); first | refine WL.step rfl (StepTo.allocA rfl rfl rfl rfl (fun _ => ?_)) | refine WL.step rfl (StepTo.alloc1 rfl rfl rfl rfl rfl (fun _ => ?_)))
    | ((with_reducible refine WL.isN_store ?_); first | refine WL.step rfl (StepTo.st1 rfl rfl rfl rfl rfl rfl ?_) | refine WL.step rfl (StepTo.stA rfl rfl rfl rfl rfl rfl rfl ?_) | refine WL.step rfl (StepTo.stR rfl rfl rfl rfl rfl rfl rfl ?_))
    | with_reducible refine WC.block ?_
    | (refine WC.cond rfl (fun hc => ?_) (fun hc => ?_) <;> (try first | (with_reducible replace hc := of_decide_eq_true hc) | (with_reducible replace hc := of_decide_eq_false hc) | (with_reducible replace hc := eqT hc) | (with_reducible replace hc := eqF hc) | (with_reducible replace hc := neT hc) | (with_reducible replace hc := neF hc) | (with_reducible replace hc := noT hc) | (with_reducible replace hc := noF hc)) <;> (try (exfalso; omega))))
    refine WC.anyI [2] (by kernel_rfl) ?_
    refine WA.take (idx := [2]) 1 rfl (by kernel_rfl) (by kernel_rfl) (by kernel_rfl) rfl ⟨by decide, rfl⟩ (Yld.pure rfl nrmQ) ?_
    refine WA.take (idx := [2]) 2 rfl (by kernel_rfl) (by kernel_rfl) (by kernel_rfl) rfl ⟨by decide, rfl⟩ (Yld.pure rfl nrmQ) ?_
    refine WA.take (idx := [2]) 3 rfl (by kernel_rfl) (by kernel_rfl) (by kernel_rfl) rfl ⟨by decide, rfl⟩ (by first | exact Yld.indexS i rfl rfl rfl rfl rfl rfl hin | exact Yld.indexS 0 rfl rfl rfl rfl rfl rfl (by omega) | exact Yld.indexS 1 rfl rfl rfl rfl rfl rfl (by omega) | exact Yld.indexS 2 rfl rfl rfl rfl rfl rfl (by omega) | exact Yld.indexS _ rfl rfl rfl rfl rfl rfl (by omega) | exact Yld.indexA 0 rfl rfl rfl rfl rfl rfl (by omega) | exact Yld.indexA 1 rfl rfl rfl rfl rfl rfl (by omega) | exact Yld.indexA _ rfl rfl rfl rfl rfl rfl (by omega)) ?_
    refine WA.take (idx := [2]) 4 rfl (by kernel_rfl) (by kernel_rfl) (by kernel_rfl) rfl ⟨by decide, rfl⟩ (by first | exact Yld.load rfl rfl rfl rfl cellQ | exact Yld.loadAgg rfl rfl rfl rfl rfl aggQ) ?_
    refine WA.one 0 (by kernel_rfl) rfl rfl ?_
    refine StepTo.yld (by first | exact Yld.load rfl rfl rfl rfl cellQ | exact Yld.loadAgg rfl rfl rfl rfl rfl aggQ) rfl ⟨⟨[2], by decide, rfl⟩, ?_⟩
    refine WA.one 5 (by kernel_rfl) rfl rfl ?_
    refine StepTo.callN [1] (us := [.agg #[.slice A1 n1 c1], pcv x]) rfl rfl rfl rfl rfl (by kernel_rfl) (fun w hw => cp w (hw.lst 1 Fr.Fp.cs_len (by omega) rfl) (nearV.vs 1 rfl (by simp))) ?_
    rintro v N ⟨A2, n2, c2, rfl, ok2, hn2, rfl⟩
    replace hn2 : n2 = b'.length := hn2
    refine ⟨⟨[3], by decide, rfl⟩, ?_⟩
    refine WA.take (idx := [3]) 6 rfl (by kernel_rfl) (by kernel_rfl) (by kernel_rfl) rfl ⟨by decide, rfl⟩ (Yld.pure rfl nrmQ) ?_
    refine WA.take (idx := [3]) 7 rfl (by kernel_rfl) (by kernel_rfl) (by kernel_rfl) rfl ⟨by decide, rfl⟩ (Yld.pure rfl nrmQ) ?_
    refine WA.take (idx := [3]) 8 rfl (by kernel_rfl) (by kernel_rfl) (by kernel_rfl) rfl ⟨by decide, rfl⟩ (Yld.pure rfl nrmQ) ?_
    refine WA.take (idx := [3]) 9 rfl (by kernel_rfl) (by kernel_rfl) (by kernel_rfl) rfl ⟨by decide, rfl⟩ (Yld.pure rfl nrmQ) ?_
    refine WA.one 10 (by kernel_rfl) rfl rfl ?_
    first | refine StepTo.store1 0 rfl rfl rfl rfl rfl rfl rfl overQ setQ ⟨⟨[3], by decide, rfl⟩, ?_⟩ | refine StepTo.storeA 0 rfl rfl rfl rfl rfl rfl rfl rfl overQ setQ ⟨⟨[3], by decide, rfl⟩, ?_⟩ | refine StepTo.storeRow 0 rfl rfl rfl rfl rfl rfl rfl rfl (by omega) setQ ⟨⟨[3], by decide, rfl⟩, ?_⟩ | refine StepTo.store1 1 rfl rfl rfl rfl rfl rfl rfl overQ setQ ⟨⟨[3], by decide, rfl⟩, ?_⟩ | refine StepTo.storeA 1 rfl rfl rfl rfl rfl rfl rfl rfl overQ setQ ⟨⟨[3], by decide, rfl⟩, ?_⟩ | refine StepTo.storeRow 1 rfl rfl rfl rfl rfl rfl rfl rfl (by omega) setQ ⟨⟨[3], by decide, rfl⟩, ?_⟩ | refine StepTo.store1 2 rfl rfl rfl rfl rfl rfl rfl overQ setQ ⟨⟨[3], by decide, rfl⟩, ?_⟩ | refine StepTo.storeA 2 rfl rfl rfl rfl rfl rfl rfl rfl overQ setQ ⟨⟨[3], by decide, rfl⟩, ?_⟩ | refine StepTo.storeRow 2 rfl rfl rfl rfl rfl rfl rfl rfl (by omega) setQ ⟨⟨[3], by decide, rfl⟩, ?_⟩ | refine StepTo.store1 3 rfl rfl rfl rfl rfl rfl rfl overQ setQ ⟨⟨[3], by decide, rfl⟩, ?_⟩ | refine StepTo.storeA 3 rfl rfl rfl rfl rfl rfl rfl rfl overQ setQ ⟨⟨[3], by decide, rfl⟩, ?_⟩ | refine StepTo.storeRow 3 rfl rfl rfl rfl rfl rfl rfl rfl (by omega) setQ ⟨⟨[3], by decide, rfl⟩, ?_⟩ | refine StepTo.store1 4 rfl rfl rfl rfl rfl rfl rfl overQ setQ ⟨⟨[3], by decide, rfl⟩, ?_⟩ | refine StepTo.storeA 4 rfl rfl rfl rfl rfl rfl rfl rfl overQ setQ ⟨⟨[3], by decide, rfl⟩, ?_⟩ | refine StepTo.storeRow 4 rfl rfl rfl rfl rfl rfl rfl rfl (by omega) setQ ⟨⟨[3], by decide, rfl⟩, ?_⟩ | refine StepTo.store1 5 rfl rfl rfl rfl rfl rfl rfl overQ setQ ⟨⟨[3], by decide, rfl⟩, ?_⟩ | refine StepTo.storeA 5 rfl rfl rfl rfl rfl rfl rfl rfl overQ setQ ⟨⟨[3], by decide, rfl⟩, ?_⟩ | refine StepTo.storeRow 5 rfl rfl rfl rfl rfl rfl rfl rfl (by omega) setQ ⟨⟨[3], by decide, rfl⟩, ?_⟩
    refine WA.done (by kernel_rfl) ?_
    repeat' (first
    | refine goS ?_
    | ((with_reducible refine WL.isN_bin ?_); first | refine WL.yld rfl binQ ?_)
    | ((with_reducible refine WL.isN_load ?_); first | refine WL.yld rfl loadQ ?_)
    | ((with_reducible refine WL.isN_iaddr ?_); first | refine WL.yld rfl iaddrQ ?_)
    | ((with_reducible refine WL.isN_build ?_); first | refine WL.yld rfl buildQ ?_)
    | ((with_reducible refine WL.isN_call ?_); first | refine WL.yld rfl lenQ ?_)
    | ((with_reducible refine WL.isN_box ?_); first | refine WL.step rfl (StepTo.boxA rfl rfl rfl rfl (fun _ => ?_)) | refine WL.step rfl (StepTo.box1 rfl rfl rfl rfl rfl (fun _ => ?_)))
    | ((with_reducible refine WL.isN_alloc ?_); first | refine WL.step rfl (StepTo.allocA rfl rfl rfl rfl (fun _ => ?_)) | refine WL.step rfl (StepTo.alloc1 rfl rfl rfl rfl rfl (fun _ => ?_)))
    | ((with_reducible refine WL.isN_store ?_); first | refine WL.step rfl (StepTo.st1 rfl rfl rfl rfl rfl rfl ?_) | refine WL.step rfl (StepTo.stA rfl rfl rfl rfl rfl rfl rfl ?_) | refine WL.step rfl (StepTo.stR rfl rfl rfl rfl rfl rfl rfl ?_))
    | with_reducible refine WC.block ?_
    | (refine WC.cond rfl (fun hc => ?_) (fun hc => ?_) <;> (try first | (with_reducible replace hc := of_decide_eq_true hc) | (with_reducible replace hc := of_decide_eq_false hc) | (with_reducible replace hc := eqT hc) | (with_reducible replace hc := eqF hc) | (with_reducible replace hc := neT hc) | (with_reducible replace hc := neF hc) | (with_reducible replace hc := noT hc) | (with_reducible replace hc := noF hc)) <;> (try (exfalso; omega))))
    exact WQ.rnd (n - (i + 1)) _ _ [1, 0, 3, 4, 5] (by repeat (first | exact Sub.nil | refine Sub.cons rfl ?_ | refine Sub.consE rfl (int_eq (by omega)) ?_)) ⟨by decide, rfl⟩ (by omega) ⟨i + 1, A2, n2, c2, b', by omega, rfl, ok2, hn2.symm, by omega, hgb', hbx', rfl, rfl⟩
  obtain rfl : i = n := by omega
  have hb3 : ∀ x ∈ b, x.tx.length ≤ 30000 := fun x hx => by have := hbx x hx; omega
  have bq1 := fun w hL => bytes_q A1 n1 c1 b w hL (by omega) hb3
  have hP := Fr.put_puts (p := p) hgb hp.tsn (by omega)
  have hQ := Fr.put_puts (p := q) hgb hq.tsn (by omega)
  have cp := fun w {V : Nat → Prop} (hL : Ps w w.heap.size A1 n1 b) (hV : nearV w V A1 n1) => put_w A1 n1 c1 b p w hL hA1 hgb (by omega) hb3 hp.tsn (by omega) hV
  have cq := fun w {V : Nat → Prop} (hL : Ps w w.heap.size A1 n1 b) (hV : nearV w V A1 n1) => put_w A1 n1 c1 b q w hL hA1 hgb (by omega) hb3 hq.tsn (by omega) hV
  obtain ⟨⟨b', m, y⟩, hput⟩ : ∃ r, Fr.put b p = r := ⟨_, rfl⟩
  obtain ⟨⟨d', mq, yq⟩, hputq⟩ : ∃ r, Fr.put b q = r := ⟨_, rfl⟩
  simp only [hput] at cp hP
  simp only [hputq] at cq hQ
  have hbx' : ∀ x ∈ b', x.tx.length ≤ 30000 := fun z hz => by
    rcases List.mem_append.1 (hP.sub z hz) with h | h
    · exact hb3 z h
    · rw [List.mem_singleton.1 h]; omega
  have hln := hP.len
  have hlq := hQ.len
  have hsmb := size_max hb3
  have hsmb' := size_max hbx'
  clear hP hQ hput hputq
  repeat' (first
    | refine goS ?_
    | ((with_reducible refine WL.isN_bin ?_); first | refine WL.yld rfl binQ ?_)
    | ((with_reducible refine WL.isN_load ?_); first | refine WL.yld rfl loadQ ?_)
    | ((with_reducible refine WL.isN_iaddr ?_); first | refine WL.yld rfl iaddrQ ?_)
    | ((with_reducible refine WL.isN_build ?_); first | refine WL.yld rfl buildQ ?_)
    | ((with_reducible refine WL.isN_call ?_); first | refine WL.step rfl (StepTo.callV (v := .int .i64 (Fr.size b : Nat)) (us := [.agg #[.slice A1 n1 c1]]) rfl rfl rfl rfl rfl (by kernel_rfl) (fun w hw => bq1 w (hw.lst 1 Fr.Fp.cs_len (by omega) rfl)) ?_) | refine WL.yld rfl lenQ ?_)
    | ((with_reducible refine WL.isN_box ?_); first | refine WL.step rfl (StepTo.boxA rfl rfl rfl rfl (fun _ => ?_)) | refine WL.step rfl (StepTo.box1 rfl rfl rfl rfl rfl (fun _ => ?_)))
    | ((with_reducible refine WL.isN_alloc ?_); first | refine WL.step rfl (StepTo.allocA rfl rfl rfl rfl (fun _ => ?_)) | refine WL.step rfl (StepTo.alloc1 rfl rfl rfl rfl rfl (fun _ => ?_)))
    | ((with_reducible refine WL.isN_store ?_); first | refine WL.step rfl (StepTo.st1 rfl rfl rfl rfl rfl rfl ?_) | refine WL.step rfl (StepTo.stA rfl rfl rfl rfl rfl rfl rfl ?_) | refine WL.step rfl (StepTo.stR rfl rfl rfl rfl rfl rfl rfl ?_))
    | with_reducible refine WC.block ?_
    | (refine WC.cond rfl (fun hc => ?_) (fun hc => ?_) <;> (try first | (with_reducible replace hc := of_decide_eq_true hc) | (with_reducible replace hc := of_decide_eq_false hc) | (with_reducible replace hc := eqT hc) | (with_reducible replace hc := eqF hc) | (with_reducible replace hc := neT hc) | (with_reducible replace hc := neF hc) | (with_reducible replace hc := noT hc) | (with_reducible replace hc := noF hc)) <;> (try (exfalso; omega))))
  refine WL.step rfl (StepTo.callN [1] (us := [.agg #[.slice A1 n1 c1], pcv p]) rfl rfl rfl rfl rfl (by kernel_rfl) (fun w hw => cp w (hw.lst 1 Fr.Fp.cs_len (by omega) rfl) (nearV.vs 1 rfl (by simp))) ?_)
  rintro v N ⟨A2, n2, c2, rfl, ok2, hn2, rfl⟩
  replace hn2 : n2 = b'.length := hn2
  repeat' (first
    | refine goS ?_
    | ((with_reducible refine WL.isN_bin ?_); first | refine WL.yld rfl binQ ?_)
    | ((with_reducible refine WL.isN_load ?_); first | refine WL.yld rfl loadQ ?_)
    | ((with_reducible refine WL.isN_iaddr ?_); first | refine WL.yld rfl iaddrQ ?_)
    | ((with_reducible refine WL.isN_build ?_); first | refine WL.yld rfl buildQ ?_)
    | ((with_reducible refine WL.isN_call ?_); first | refine WL.yld rfl lenQ ?_)
    | ((with_reducible refine WL.isN_box ?_); first | refine WL.step rfl (StepTo.boxA rfl rfl rfl rfl (fun _ => ?_)) | refine WL.step rfl (StepTo.box1 rfl rfl rfl rfl rfl (fun _ => ?_)))
    | ((with_reducible refine WL.isN_alloc ?_); first | refine WL.step rfl (StepTo.allocA rfl rfl rfl rfl (fun _ => ?_)) | refine WL.step rfl (StepTo.alloc1 rfl rfl rfl rfl rfl (fun _ => ?_)))
    | ((with_reducible refine WL.isN_store ?_); first | refine WL.step rfl (StepTo.st1 rfl rfl rfl rfl rfl rfl ?_) | refine WL.step rfl (StepTo.stA rfl rfl rfl rfl rfl rfl rfl ?_) | refine WL.step rfl (StepTo.stR rfl rfl rfl rfl rfl rfl rfl ?_))
    | with_reducible refine WC.block ?_
    | (refine WC.cond rfl (fun hc => ?_) (fun hc => ?_) <;> (try first | (with_reducible replace hc := of_decide_eq_true hc) | (with_reducible replace hc := of_decide_eq_false hc) | (with_reducible replace hc := eqT hc) | (with_reducible replace hc := eqF hc) | (with_reducible replace hc := neT hc) | (with_reducible replace hc := neF hc) | (with_reducible replace hc := noT hc) | (with_reducible replace hc := noF hc)) <;> (try (exfalso; omega))))
  refine WL.step rfl (StepTo.callN [4] (us := [.agg #[.slice A1 n1 c1], pcv q]) rfl rfl rfl rfl rfl (by kernel_rfl) (fun w hw => cq w (hw.lst 4 Fr.Fp.cs_len (by omega) rfl) (nearV.vs 4 rfl (by simp))) ?_)
  rintro v N ⟨A3, n3, c3, rfl, ok3, hn3, rfl⟩
  replace hn3 : n3 = d'.length := hn3
  repeat' (first
    | refine goS ?_
    | ((with_reducible refine WL.isN_bin ?_); first | refine WL.yld rfl binQ ?_)
    | ((with_reducible refine WL.isN_load ?_); first | refine WL.yld rfl loadQ ?_)
    | ((with_reducible refine WL.isN_iaddr ?_); first | refine WL.yld rfl iaddrQ ?_)
    | ((with_reducible refine WL.isN_build ?_); first | refine WL.yld rfl buildQ ?_)
    | ((with_reducible refine WL.isN_call ?_); first | refine WL.yld rfl lenQ ?_)
    | ((with_reducible refine WL.isN_box ?_); first | refine WL.step rfl (StepTo.boxA rfl rfl rfl rfl (fun _ => ?_)) | refine WL.step rfl (StepTo.box1 rfl rfl rfl rfl rfl (fun _ => ?_)))
    | ((with_reducible refine WL.isN_alloc ?_); first | refine WL.step rfl (StepTo.allocA rfl rfl rfl rfl (fun _ => ?_)) | refine WL.step rfl (StepTo.alloc1 rfl rfl rfl rfl rfl (fun _ => ?_)))
    | ((with_reducible refine WL.isN_store ?_); first | refine WL.step rfl (StepTo.st1 rfl rfl rfl rfl rfl rfl ?_) | refine WL.step rfl (StepTo.stA rfl rfl rfl rfl rfl rfl rfl ?_) | refine WL.step rfl (StepTo.stR rfl rfl rfl rfl rfl rfl rfl ?_))
    | with_reducible refine WC.block ?_
    | (refine WC.cond rfl (fun hc => ?_) (fun hc => ?_) <;> (try first | (with_reducible replace hc := of_decide_eq_true hc) | (with_reducible replace hc := of_decide_eq_false hc) | (with_reducible replace hc := eqT hc) | (with_reducible replace hc := eqF hc) | (with_reducible replace hc := neT hc) | (with_reducible replace hc := neF hc) | (with_reducible replace hc := noT hc) | (with_reducible replace hc := noF hc)) <;> (try (exfalso; omega))))
  refine WL.step rfl (StepTo.callN [7] (us := [.agg #[.slice A1 n1 c1], pcv p]) rfl rfl rfl rfl rfl (by kernel_rfl) (fun w hw => cp w (hw.lst 7 Fr.Fp.cs_len (by omega) rfl) (nearV.vs 7 rfl (by simp))) ?_)
  rintro v N ⟨A4, n4, c4, rfl, ok4, hn4, rfl⟩
  replace hn4 : n4 = b'.length := hn4
  repeat' (first
    | refine goS ?_
    | ((with_reducible refine WL.isN_bin ?_); first | refine WL.yld rfl binQ ?_)
    | ((with_reducible refine WL.isN_load ?_); first | refine WL.yld rfl loadQ ?_)
    | ((with_reducible refine WL.isN_iaddr ?_); first | refine WL.yld rfl iaddrQ ?_)
    | ((with_reducible refine WL.isN_build ?_); first | refine WL.yld rfl buildQ ?_)
    | ((with_reducible refine WL.isN_call ?_); first | refine WL.yld rfl lenQ ?_)
    | ((with_reducible refine WL.isN_box ?_); first | refine WL.step rfl (StepTo.boxA rfl rfl rfl rfl (fun _ => ?_)) | refine WL.step rfl (StepTo.box1 rfl rfl rfl rfl rfl (fun _ => ?_)))
    | ((with_reducible refine WL.isN_alloc ?_); first | refine WL.step rfl (StepTo.allocA rfl rfl rfl rfl (fun _ => ?_)) | refine WL.step rfl (StepTo.alloc1 rfl rfl rfl rfl rfl (fun _ => ?_)))
    | ((with_reducible refine WL.isN_store ?_); first | refine WL.step rfl (StepTo.st1 rfl rfl rfl rfl rfl rfl ?_) | refine WL.step rfl (StepTo.stA rfl rfl rfl rfl rfl rfl rfl ?_) | refine WL.step rfl (StepTo.stR rfl rfl rfl rfl rfl rfl rfl ?_))
    | with_reducible refine WC.block ?_
    | (refine WC.cond rfl (fun hc => ?_) (fun hc => ?_) <;> (try first | (with_reducible replace hc := of_decide_eq_true hc) | (with_reducible replace hc := of_decide_eq_false hc) | (with_reducible replace hc := eqT hc) | (with_reducible replace hc := eqF hc) | (with_reducible replace hc := neT hc) | (with_reducible replace hc := neF hc) | (with_reducible replace hc := noT hc) | (with_reducible replace hc := noF hc)) <;> (try (exfalso; omega))))
  rename_i b13 b14 b16 b17 b19 b20
  obtain rfl : n4 = n2 := by omega
  have bq2 := fun w hL => bytes_q A2 n4 c2 b' w hL (by omega) hbx'
  have bq4 := fun w hL => bytes_q A4 n4 c4 b' w hL (by omega) hbx'
  have hle : ((n3 : Nat) : Int) ≤ (n1 : Int) + 1 := by omega
  refine WC.sub (idx := [0, 1, 2, 4, 6, 7, 8, 9, 10]) (τ' := [(9, .pointer (some ⟨bB, 0, none⟩)), (11, .int .i64 (Fr.size b : Nat)), (12, .int .i64 (n1 : Nat)), (13, .pointer (some ⟨b13, 0, none⟩)), (14, .pointer (some ⟨b14, 0, none⟩)), (15, .bool y), (16, .pointer (some ⟨b16, 0, none⟩)), (19, .pointer (some ⟨b19, 0, none⟩)), (20, .pointer (some ⟨b20, 0, none⟩)), (21, .bool y)])
    (H' := [.box b20 38 m.cs, .box b19 36 [.slice A4 n4 c4], .vw A4 n4 8 (flat Fr.Fp.cs b'), .box b16 36 [.slice A3 n3 c3], .box b14 38 m.cs, .box b13 36 [.slice A2 n4 c2], .vw A2 n4 8 (flat Fr.Fp.cs b'), .box bB 36 [.slice A1 n1 c1], .vw A1 n1 8 (flat Fr.Fp.cs b)]) (by repeat (first | exact Sub.nil | refine Sub.cons rfl ?_ | refine Sub.consE rfl (int_eq (by omega)) ?_)) ⟨by decide, rfl⟩ ?_
  repeat' (first
    | refine goS ?_
    | ((with_reducible refine WL.isN_bin ?_); first | refine WL.yld rfl (Yld.eqlSame 4 rfl rfl rfl (by kernel_rfl) (by kernel_rfl) rfl rfl (by simp)) ?_ | refine WL.yld rfl binQ ?_)
    | ((with_reducible refine WK.isN_bin ?_); first | refine WK.yld rfl (Yld.eqlSame 4 rfl rfl rfl (by kernel_rfl) (by kernel_rfl) rfl rfl (by simp)) ?_ | refine WK.yld rfl binQ ?_)
    | ((with_reducible refine WL.isN_load ?_); first | refine WL.yld rfl loadQ ?_)
    | ((with_reducible refine WK.isN_load ?_); first | refine WK.yld rfl loadQ ?_)
    | ((with_reducible refine WL.isN_iaddr ?_); first | refine WL.yld rfl iaddrQ ?_)
    | ((with_reducible refine WK.isN_iaddr ?_); first | refine WK.yld rfl iaddrQ ?_)
    | ((with_reducible refine WL.isN_build ?_); first | refine WL.yld rfl buildQ ?_)
    | ((with_reducible refine WK.isN_build ?_); first | refine WK.yld rfl buildQ ?_)
    | ((with_reducible refine WL.isN_call ?_); first | refine WK.step rfl (Qui.call (v := .int .i64 (Fr.size b : Nat)) (us := [.agg #[.slice A1 n1 c1]]) rfl rfl rfl (by kernel_rfl) (fun w hw => bq1 w (hw.lst 8 Fr.Fp.cs_len (by omega) rfl))) ?_ | refine WK.step rfl (Qui.call (v := .int .i64 (Fr.size b' : Nat)) (us := [.agg #[.slice A2 n4 c2]]) rfl rfl rfl (by kernel_rfl) (fun w hw => bq2 w (hw.lst 6 Fr.Fp.cs_len (by omega) rfl))) ?_ | refine WK.step rfl (Qui.call (v := .int .i64 (Fr.size b' : Nat)) (us := [.agg #[.slice A4 n4 c4]]) rfl rfl rfl (by kernel_rfl) (fun w hw => bq4 w (hw.lst 2 Fr.Fp.cs_len (by omega) rfl))) ?_ | refine WL.yld rfl lenQ ?_)
    | ((with_reducible refine WK.isN_call ?_); first | refine WK.step rfl (Qui.call (v := .int .i64 (Fr.size b : Nat)) (us := [.agg #[.slice A1 n1 c1]]) rfl rfl rfl (by kernel_rfl) (fun w hw => bq1 w (hw.lst 8 Fr.Fp.cs_len (by omega) rfl))) ?_ | refine WK.step rfl (Qui.call (v := .int .i64 (Fr.size b' : Nat)) (us := [.agg #[.slice A2 n4 c2]]) rfl rfl rfl (by kernel_rfl) (fun w hw => bq2 w (hw.lst 6 Fr.Fp.cs_len (by omega) rfl))) ?_ | refine WK.step rfl (Qui.call (v := .int .i64 (Fr.size b' : Nat)) (us := [.agg #[.slice A4 n4 c4]]) rfl rfl rfl (by kernel_rfl) (fun w hw => bq4 w (hw.lst 2 Fr.Fp.cs_len (by omega) rfl))) ?_ | refine WK.yld rfl lenQ ?_)
    | ((with_reducible refine WL.isN_box ?_); first | refine WL.step rfl (StepTo.boxA rfl rfl rfl rfl (fun _ => ?_)) | refine WL.step rfl (StepTo.box1 rfl rfl rfl rfl rfl (fun _ => ?_)))
    | ((with_reducible refine WL.isN_alloc ?_); first | refine WL.step rfl (StepTo.allocA rfl rfl rfl rfl (fun _ => ?_)) | refine WL.step rfl (StepTo.alloc1 rfl rfl rfl rfl rfl (fun _ => ?_)))
    | ((with_reducible refine WL.isN_store ?_); first | refine WL.step rfl (StepTo.st1 rfl rfl rfl rfl rfl rfl ?_) | refine WL.step rfl (StepTo.stA rfl rfl rfl rfl rfl rfl rfl ?_) | refine WL.step rfl (StepTo.stR rfl rfl rfl rfl rfl rfl rfl ?_))
    | with_reducible refine WC.block ?_
    | (refine WC.quiet (i := 15) (by kernel_rfl) (by kernel_rfl) ?_)
    | (refine WC.cond rfl (fun hc => ?_) (fun hc => ?_) <;> (try first | (with_reducible replace hc := of_decide_eq_true hc) | (with_reducible replace hc := of_decide_eq_false hc) | (with_reducible replace hc := eqT hc) | (with_reducible replace hc := eqF hc) | (with_reducible replace hc := neT hc) | (with_reducible replace hc := neF hc) | (with_reducible replace hc := noT hc) | (with_reducible replace hc := noF hc)) <;> (try (exfalso; omega))))
  rw [decide_eq_true hle]
  exact WQ.body (Reads.tmp rfl rfl) fun w' hw' => ⟨rfl, hw'.ext.below⟩
end Go.Proofs.Ytaopomedbbcgcaa
