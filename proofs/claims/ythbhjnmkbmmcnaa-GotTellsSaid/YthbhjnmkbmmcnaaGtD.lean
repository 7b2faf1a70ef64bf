/- What is told of what came; the law GotDups. -/
import Derived.Test.YthbhjnmkbmmcnaaGtP
namespace Go.Proofs.Ythbhjnmkbmmcnaa
open Go.RowKit Go.IntWalk
set_option linter.unusedVariables false
set_option linter.unusedSimpArgs false
set_option linter.unusedSectionVars false
set_option maxRecDepth 100000

/-- A call whose new blocks are told. -/
theorem StepTo.callF {P : Program} {w0 : World} {D : Nat → Prop} {n : Nat} [Dfr] {τ : Tm} {H : List Item} {o : Oper} {K : Tm → List Item → Prop} {F : Operand} {args : Array Operand} {tys : Array TypeId} {vs us : List Value} {f : FuncId} {R : Value → List Item → Prop} (idx : List Nat) (ho : o.op = .call { callee := .value F, args := args, argTypes := tys }) {d : Nat} (hdst : o.dst = some d) (hd : Nat.blt d n = true)
    (ha : evls τ args.toList = some vs) (hF : funV vs (evl τ F) = some (f, us)) (hB : callsB P f = true)
    (h : ∀ w, Sat w0 D H w → Calls P f us.toArray w fun e w' => ∃ v N, e = .returned v ∧ R v N ∧ New (Vs H idx) N w w') (hK : ∀ v N, R v N → (∀ it ∈ N, ∀ b, it.blk = some b → w0.heap.size ≤ b ∨ Vs H idx b) → K ((d, v) :: τ) (N ++ H)) : StepTo P w0 D n o τ H K :=
  StepTo.call ho hdst hd ha hF hB fun w hw => (h w hw).mono fun e w' ⟨v, N, he, hr, hn⟩ => ⟨v, N ++ H, he, hw.new hn, hK v N hr fun it hit b hb => by
    rcases (hn.2.1 it hit).2 b hb with h1 | h1
    · exact .inl (Nat.le_trans hw.ext.size h1)
    · exact .inr h1.2⟩
theorem vs_nil {H : List Item} {b : Nat} (h : Vs H [] b) : False := by obtain ⟨i, hi, _⟩ := h; cases hi
/-- The cells of what is told. -/
def sackC (c win : Int) (Ag : Option Addr) (q kg : Nat) (Ad : Option Addr) (m kd : Nat) : List Value :=
  [.int .i64 3, .int .i64 0, .int .u32 c, .int .u32 0, .int .u32 win, .int .u32 0, .int .u16 0, .int .u16 0, .int .u16 0, .int .u16 0, .slice Ag q kg, .slice Ad m kd, .slice none 0 0, .string (bs [])]
def SackR (g : Gt.G) (win : Int) (A : Option Addr) (n k : Nat) (v : Value) (N : List Item) : Prop := ∃ Ag q kg Ad m kd, v = .tuple #[.agg (sackC g.c win Ag q kg Ad m kd).toArray, gv g.c A n k none 0 0] ∧ okA Ag q ∧ okA Ad m ∧ q = (Gt.gaps g.D).length ∧ m = g.du.length ∧ N = [.vw Ag q 2 (flat (pc .u16) (Gt.gaps g.D)), .vw Ad m 1 (flat (ic .u32) g.du)]
set_option maxHeartbeats 8000000 in
theorem sack_w (A : Option Addr) (n k : Nat) (B : Option Addr) (m l : Nat) (g : Gt.G) (win : Int) (w : World) (hL : Lst (ic .u32) 1 w w.heap.size A n (Gt.ab g.c g.D)) (hM : Lst (ic .u32) 1 w w.heap.size B m g.du) (hA : okA A n) (hB : okA B m) (hg : g.Ok) (hn : n ≤ 100000) {V : Nat → Prop} :
    Calls Try.prog 22 #[gv g.c A n k B m l, .int .u32 win] w fun e w' => ∃ v N, e = .returned v ∧ SackR g win A n k v N ∧ New V N w w' := by
  have hm := hM.len
  have hdu := hg.du
  refine enterW (fun _ => False) _ Try.func22 rfl (by simp only [Try.ntmps22, List.length_cons, List.length_nil, Nat.reduceAdd, Nat.reduceSub]; rfl) ?_
  refine WC.addVw (ic_len .u32) hM ?_
  refine WC.addVw (ic_len .u32) hL ?_
  repeat' (first
    | refine goS ?_
    | ((with_reducible refine WL.isN_load ?_); first | refine WL.yld rfl loadQ ?_)
    | ((with_reducible refine WL.isN_build ?_); first | refine WL.yld rfl buildQ ?_)
    | ((with_reducible refine WL.isN_box ?_); first | refine WL.step rfl (StepTo.boxA rfl rfl rfl rfl (fun _ => ?_)) | refine WL.step rfl (StepTo.box1 rfl rfl rfl rfl rfl (fun _ => ?_)))
    | ((with_reducible refine WL.isN_alloc ?_); first | refine WL.step rfl (StepTo.allocA rfl rfl rfl rfl (fun _ => ?_)) | refine WL.step rfl (StepTo.alloc1 rfl rfl rfl rfl rfl (fun _ => ?_)))
    | ((with_reducible refine WL.isN_store ?_); first | refine WL.step rfl (StepTo.st1 rfl rfl rfl rfl rfl rfl ?_) | refine WL.step rfl (StepTo.stA rfl rfl rfl rfl rfl rfl rfl ?_) | refine WL.step rfl (StepTo.stR rfl rfl rfl rfl rfl rfl rfl ?_))
    | with_reducible refine WC.block ?_
    | (refine WC.cond rfl (fun hc => ?_) (fun hc => ?_) <;> (try first | (with_reducible replace hc := of_decide_eq_true hc) | (with_reducible replace hc := of_decide_eq_false hc) | (with_reducible replace hc := eqT hc) | (with_reducible replace hc := eqF hc) | (with_reducible replace hc := neT hc) | (with_reducible replace hc := neF hc) | (with_reducible replace hc := noT hc) | (with_reducible replace hc := noF hc)) <;> (try (exfalso; omega))))
  rename_i b2 b4 b5
  refine WC.cut (fun τ H => ∃ (Ag : Option Addr) (q kg : Nat) (Ad : Option Addr) (kd b6 : Nat), okA Ag q ∧ q = (Gt.gaps g.D).length ∧ (∀ b, (Item.vw Ag q 2 (flat (pc .u16) (Gt.gaps g.D))).blk = some b → w.heap.size ≤ b) ∧ τ = [(2, .pointer (some ⟨b2, 0, none⟩)), (4, .pointer (some ⟨b4, 0, none⟩)), (5, .pointer (some ⟨b5, 0, none⟩)), (6, .pointer (some ⟨b6, 0, none⟩))] ∧
      H = [.box b6 47 (sackC g.c win Ag q kg Ad m kd), .vw Ag q 2 (flat (pc .u16) (Gt.gaps g.D)), .row Ad m kd 22 1 (flat (ic .u32) g.du), .box b2 25 [.int .u32 g.c, .slice A n k, .slice B m l],
        .box b4 47 (sackC 0 0 none 0 0 none 0 0 |>.set 0 (.int .i64 0)), .box b5 25 [.int .u32 0, .slice none 0 0, .slice none 0 0]]) ?_ ?_
  refine WC.anyI [2, 3, 4] (by kernel_rfl) ?_
  refine WA.take (idx := [2, 3, 4]) 0 rfl (by kernel_rfl) (by kernel_rfl) (by kernel_rfl) rfl ⟨by decide, rfl⟩ (Yld.fieldAddr rfl rfl rfl rfl rfl rfl rfl) ?_
  refine WA.take (idx := [2, 3, 4]) 1 rfl (by kernel_rfl) (by kernel_rfl) (by kernel_rfl) rfl ⟨by decide, rfl⟩ (by first | exact Yld.load rfl rfl rfl rfl cellQ | exact Yld.loadAgg rfl rfl rfl rfl rfl aggQ) ?_
  refine WA.take (idx := [2, 3, 4]) 2 rfl (by kernel_rfl) (by kernel_rfl) (by kernel_rfl) rfl ⟨by decide, rfl⟩ (Yld.pure rfl nrmQ) ?_
  refine WA.take (idx := [2, 3, 4]) 3 rfl (by kernel_rfl) (by kernel_rfl) (by kernel_rfl) rfl ⟨by decide, rfl⟩ (by first | exact Yld.load rfl rfl rfl rfl cellQ | exact Yld.loadAgg rfl rfl rfl rfl rfl aggQ) ?_
  refine WA.take (idx := [2, 3, 4]) 5 rfl (by kernel_rfl) (by kernel_rfl) (by kernel_rfl) rfl ⟨by decide, rfl⟩ (Yld.fieldAddr rfl rfl rfl rfl rfl rfl rfl) ?_
  refine WA.take (idx := [2, 3, 4]) 6 rfl (by kernel_rfl) (by kernel_rfl) (by kernel_rfl) rfl ⟨by decide, rfl⟩ (by first | exact Yld.load rfl rfl rfl rfl cellQ | exact Yld.loadAgg rfl rfl rfl rfl rfl aggQ) ?_
  refine WA.two 4 9 (by kernel_rfl) rfl rfl rfl rfl ?_ ?_
  · refine StepTo.callF [] (us := [gv g.c A n k B m l]) rfl rfl rfl rfl rfl (by kernel_rfl) (fun w hw => gaps_w A n k B m l g.c g.D w (hw.lst 3 (ic_len .u32) (by omega) rfl) hA hg.D hn) ?_
    rintro v N ⟨Ag, q, kg, rfl, okg, hq, rfl⟩ hbl
    refine ⟨⟨[3, 4, 5], by decide, rfl⟩, ?_⟩
    refine WA.two 7 9 (by kernel_rfl) rfl rfl rfl rfl ?_ ?_
    · refine StepTo.callN [] (us := [.slice B m l]) rfl rfl rfl rfl rfl (by kernel_rfl) (fun w hw => cloneI_w B m l g.du w (hw.lst 5 (ic_len .u32) (by omega) rfl) (by omega) hB) ?_
      rintro v N ⟨Ad, kd, rfl, rfl⟩
      refine ⟨⟨[4, 5, 6], by decide, rfl⟩, ?_⟩
      refine WA.take (idx := [4, 5, 6]) 8 rfl (by kernel_rfl) (by kernel_rfl) (by kernel_rfl) rfl ⟨by decide, rfl⟩ (Yld.build (cells := (sackC g.c win Ag q kg Ad m kd).toArray) rfl rfl (by kernel_rfl)) ?_
      refine WA.one 9 (by kernel_rfl) rfl rfl ?_
      first | refine StepTo.allocA rfl rfl rfl rfl (fun _ => ⟨⟨[5, 6, 7], by decide, rfl⟩, ?_⟩) | refine StepTo.alloc1 rfl rfl rfl rfl rfl (fun _ => ⟨⟨[5, 6, 7], by decide, rfl⟩, ?_⟩)
      refine WA.one 10 (by kernel_rfl) rfl rfl ?_
      first | refine StepTo.storeA 0 rfl rfl rfl rfl rfl rfl rfl rfl overQ setQ ⟨⟨[5, 6, 7], by decide, rfl⟩, ?_⟩ | refine StepTo.store1 0 rfl rfl rfl rfl rfl rfl rfl overQ setQ ⟨⟨[5, 6, 7], by decide, rfl⟩, ?_⟩
      refine WA.done (by kernel_rfl) ?_
      refine WQ.thenN (WQ.met _ _ [0, 2, 1, 5, 4, 3] (by repeat (first | exact Sub.nil | refine Sub.cons rfl ?_ | refine Sub.consE rfl (int_eq (by omega)) ?_)) ⟨by decide, rfl⟩ ⟨Ag, q, kg, Ad, kd, _, okg, hq, fun b hb => (hbl _ (List.mem_singleton.2 rfl) b hb).resolve_right vs_nil, rfl, rfl⟩)
    · first | refine StepTo.allocA rfl rfl rfl rfl (fun _ => ⟨⟨[4, 5, 6], by decide, rfl⟩, ?_⟩) | refine StepTo.alloc1 rfl rfl rfl rfl rfl (fun _ => ⟨⟨[4, 5, 6], by decide, rfl⟩, ?_⟩)
      refine WA.one 7 (by kernel_rfl) rfl rfl ?_
      refine StepTo.callN [] (us := [.slice B m l]) rfl rfl rfl rfl rfl (by kernel_rfl) (fun w hw => cloneI_w B m l g.du w (hw.lst 6 (ic_len .u32) (by omega) rfl) (by omega) hB) ?_
      rintro v N ⟨Ad, kd, rfl, rfl⟩
      refine ⟨⟨[5, 6, 7], by decide, rfl⟩, ?_⟩
      refine WA.take (idx := [5, 6, 7]) 8 rfl (by kernel_rfl) (by kernel_rfl) (by kernel_rfl) rfl ⟨by decide, rfl⟩ (Yld.build (cells := (sackC g.c win Ag q kg Ad m kd).toArray) rfl rfl (by kernel_rfl)) ?_
      refine WA.one 10 (by kernel_rfl) rfl rfl ?_
      first | refine StepTo.storeA 1 rfl rfl rfl rfl rfl rfl rfl rfl overQ setQ ⟨⟨[5, 6, 7], by decide, rfl⟩, ?_⟩ | refine StepTo.store1 1 rfl rfl rfl rfl rfl rfl rfl overQ setQ ⟨⟨[5, 6, 7], by decide, rfl⟩, ?_⟩
      refine WA.done (by kernel_rfl) ?_
      refine WQ.thenN (WQ.met _ _ [1, 2, 0, 5, 4, 3] (by repeat (first | exact Sub.nil | refine Sub.cons rfl ?_ | refine Sub.consE rfl (int_eq (by omega)) ?_)) ⟨by decide, rfl⟩ ⟨Ag, q, kg, Ad, kd, _, okg, hq, fun b hb => (hbl _ (List.mem_singleton.2 rfl) b hb).resolve_right vs_nil, rfl, rfl⟩)
  · first | refine StepTo.allocA rfl rfl rfl rfl (fun _ => ⟨⟨[3, 4, 5], by decide, rfl⟩, ?_⟩) | refine StepTo.alloc1 rfl rfl rfl rfl rfl (fun _ => ⟨⟨[3, 4, 5], by decide, rfl⟩, ?_⟩)
    refine WA.one 4 (by kernel_rfl) rfl rfl ?_
    refine StepTo.callF [] (us := [gv g.c A n k B m l]) rfl rfl rfl rfl rfl (by kernel_rfl) (fun w hw => gaps_w A n k B m l g.c g.D w (hw.lst 4 (ic_len .u32) (by omega) rfl) hA hg.D hn) ?_
    rintro v N ⟨Ag, q, kg, rfl, okg, hq, rfl⟩ hbl
    refine ⟨⟨[4, 5, 6], by decide, rfl⟩, ?_⟩
    refine WA.one 7 (by kernel_rfl) rfl rfl ?_
    refine StepTo.callN [] (us := [.slice B m l]) rfl rfl rfl rfl rfl (by kernel_rfl) (fun w hw => cloneI_w B m l g.du w (hw.lst 6 (ic_len .u32) (by omega) rfl) (by omega) hB) ?_
    rintro v N ⟨Ad, kd, rfl, rfl⟩
    refine ⟨⟨[5, 6, 7], by decide, rfl⟩, ?_⟩
    refine WA.take (idx := [5, 6, 7]) 8 rfl (by kernel_rfl) (by kernel_rfl) (by kernel_rfl) rfl ⟨by decide, rfl⟩ (Yld.build (cells := (sackC g.c win Ag q kg Ad m kd).toArray) rfl rfl (by kernel_rfl)) ?_
    refine WA.one 10 (by kernel_rfl) rfl rfl ?_
    first | refine StepTo.storeA 2 rfl rfl rfl rfl rfl rfl rfl rfl overQ setQ ⟨⟨[5, 6, 7], by decide, rfl⟩, ?_⟩ | refine StepTo.store1 2 rfl rfl rfl rfl rfl rfl rfl overQ setQ ⟨⟨[5, 6, 7], by decide, rfl⟩, ?_⟩
    refine WA.done (by kernel_rfl) ?_
    refine WQ.thenN (WQ.met _ _ [2, 1, 0, 5, 4, 3] (by repeat (first | exact Sub.nil | refine Sub.cons rfl ?_ | refine Sub.consE rfl (int_eq (by omega)) ?_)) ⟨by decide, rfl⟩ ⟨Ag, q, kg, Ad, kd, _, okg, hq, fun b hb => (hbl _ (List.mem_singleton.2 rfl) b hb).resolve_right vs_nil, rfl, rfl⟩)
  rintro τ H ⟨Ag, q, kg, Ad, kd, b6, okg, hq, ownG, rfl, rfl⟩
  repeat' (first
    | refine goS ?_
    | ((with_reducible refine WL.isN_load ?_); first | refine WL.yld rfl loadQ ?_)
    | ((with_reducible refine WL.isN_build ?_); first | refine WL.yld rfl buildQ ?_)
    | ((with_reducible refine WL.isN_box ?_); first | refine WL.step rfl (StepTo.boxA rfl rfl rfl rfl (fun _ => ?_)) | refine WL.step rfl (StepTo.box1 rfl rfl rfl rfl rfl (fun _ => ?_)))
    | ((with_reducible refine WL.isN_alloc ?_); first | refine WL.step rfl (StepTo.allocA rfl rfl rfl rfl (fun _ => ?_)) | refine WL.step rfl (StepTo.alloc1 rfl rfl rfl rfl rfl (fun _ => ?_)))
    | ((with_reducible refine WL.isN_store ?_); first | refine WL.step rfl (StepTo.st1 rfl rfl rfl rfl rfl rfl ?_) | refine WL.step rfl (StepTo.stA rfl rfl rfl rfl rfl rfl rfl ?_) | refine WL.step rfl (StepTo.stR rfl rfl rfl rfl rfl rfl rfl ?_))
    | with_reducible refine WC.block ?_
    | (refine WC.cond rfl (fun hc => ?_) (fun hc => ?_) <;> (try first | (with_reducible replace hc := of_decide_eq_true hc) | (with_reducible replace hc := of_decide_eq_false hc) | (with_reducible replace hc := eqT hc) | (with_reducible replace hc := eqF hc) | (with_reducible replace hc := neT hc) | (with_reducible replace hc := neF hc) | (with_reducible replace hc := noT hc) | (with_reducible replace hc := noF hc)) <;> (try (exfalso; omega))))
  refine WC.cut (fun τ H => τ = [(4, .pointer (some ⟨b4, 0, none⟩)), (5, .pointer (some ⟨b5, 0, none⟩))] ∧ H = [.box b4 47 (sackC g.c win Ag q kg Ad m kd), .box b5 25 [.int .u32 g.c, .slice A n k, .slice none 0 0], .vw Ag q 2 (flat (pc .u16) (Gt.gaps g.D)), .row Ad m kd 22 1 (flat (ic .u32) g.du)]) ?_ ?_
  refine WC.anyI [0, 3] (by kernel_rfl) ?_
  refine WA.take (idx := [0, 3]) 0 rfl (by kernel_rfl) (by kernel_rfl) (by kernel_rfl) rfl ⟨by decide, rfl⟩ (by first | exact Yld.load rfl rfl rfl rfl cellQ | exact Yld.loadAgg rfl rfl rfl rfl rfl aggQ) ?_
  refine WA.take (idx := [0, 3]) 1 rfl (by kernel_rfl) (by kernel_rfl) (by kernel_rfl) rfl ⟨by decide, rfl⟩ (by first | exact Yld.load rfl rfl rfl rfl cellQ | exact Yld.loadAgg rfl rfl rfl rfl rfl aggQ) ?_
  refine WA.one 2 (by kernel_rfl) rfl rfl ?_
  first | refine StepTo.store1 0 rfl rfl rfl rfl rfl rfl rfl overQ setQ ⟨⟨[0, 3], by decide, rfl⟩, ?_⟩ | refine StepTo.storeA 0 rfl rfl rfl rfl rfl rfl rfl rfl overQ setQ ⟨⟨[0, 3], by decide, rfl⟩, ?_⟩ | refine StepTo.storeRow 0 rfl rfl rfl rfl rfl rfl rfl rfl (by omega) setQ ⟨⟨[0, 3], by decide, rfl⟩, ?_⟩ | refine StepTo.store1 1 rfl rfl rfl rfl rfl rfl rfl overQ setQ ⟨⟨[0, 3], by decide, rfl⟩, ?_⟩ | refine StepTo.storeA 1 rfl rfl rfl rfl rfl rfl rfl rfl overQ setQ ⟨⟨[0, 3], by decide, rfl⟩, ?_⟩ | refine StepTo.storeRow 1 rfl rfl rfl rfl rfl rfl rfl rfl (by omega) setQ ⟨⟨[0, 3], by decide, rfl⟩, ?_⟩ | refine StepTo.store1 2 rfl rfl rfl rfl rfl rfl rfl overQ setQ ⟨⟨[0, 3], by decide, rfl⟩, ?_⟩ | refine StepTo.storeA 2 rfl rfl rfl rfl rfl rfl rfl rfl overQ setQ ⟨⟨[0, 3], by decide, rfl⟩, ?_⟩ | refine StepTo.storeRow 2 rfl rfl rfl rfl rfl rfl rfl rfl (by omega) setQ ⟨⟨[0, 3], by decide, rfl⟩, ?_⟩ | refine StepTo.store1 3 rfl rfl rfl rfl rfl rfl rfl overQ setQ ⟨⟨[0, 3], by decide, rfl⟩, ?_⟩ | refine StepTo.storeA 3 rfl rfl rfl rfl rfl rfl rfl rfl overQ setQ ⟨⟨[0, 3], by decide, rfl⟩, ?_⟩ | refine StepTo.storeRow 3 rfl rfl rfl rfl rfl rfl rfl rfl (by omega) setQ ⟨⟨[0, 3], by decide, rfl⟩, ?_⟩ | refine StepTo.store1 4 rfl rfl rfl rfl rfl rfl rfl overQ setQ ⟨⟨[0, 3], by decide, rfl⟩, ?_⟩ | refine StepTo.storeA 4 rfl rfl rfl rfl rfl rfl rfl rfl overQ setQ ⟨⟨[0, 3], by decide, rfl⟩, ?_⟩ | refine StepTo.storeRow 4 rfl rfl rfl rfl rfl rfl rfl rfl (by omega) setQ ⟨⟨[0, 3], by decide, rfl⟩, ?_⟩ | refine StepTo.store1 5 rfl rfl rfl rfl rfl rfl rfl overQ setQ ⟨⟨[0, 3], by decide, rfl⟩, ?_⟩ | refine StepTo.storeA 5 rfl rfl rfl rfl rfl rfl rfl rfl overQ setQ ⟨⟨[0, 3], by decide, rfl⟩, ?_⟩ | refine StepTo.storeRow 5 rfl rfl rfl rfl rfl rfl rfl rfl (by omega) setQ ⟨⟨[0, 3], by decide, rfl⟩, ?_⟩
  refine WA.one 3 (by kernel_rfl) rfl rfl ?_
  first | refine StepTo.store1 0 rfl rfl rfl rfl rfl rfl rfl overQ setQ ⟨⟨[0, 3], by decide, rfl⟩, ?_⟩ | refine StepTo.storeA 0 rfl rfl rfl rfl rfl rfl rfl rfl overQ setQ ⟨⟨[0, 3], by decide, rfl⟩, ?_⟩ | refine StepTo.storeRow 0 rfl rfl rfl rfl rfl rfl rfl rfl (by omega) setQ ⟨⟨[0, 3], by decide, rfl⟩, ?_⟩ | refine StepTo.store1 1 rfl rfl rfl rfl rfl rfl rfl overQ setQ ⟨⟨[0, 3], by decide, rfl⟩, ?_⟩ | refine StepTo.storeA 1 rfl rfl rfl rfl rfl rfl rfl rfl overQ setQ ⟨⟨[0, 3], by decide, rfl⟩, ?_⟩ | refine StepTo.storeRow 1 rfl rfl rfl rfl rfl rfl rfl rfl (by omega) setQ ⟨⟨[0, 3], by decide, rfl⟩, ?_⟩ | refine StepTo.store1 2 rfl rfl rfl rfl rfl rfl rfl overQ setQ ⟨⟨[0, 3], by decide, rfl⟩, ?_⟩ | refine StepTo.storeA 2 rfl rfl rfl rfl rfl rfl rfl rfl overQ setQ ⟨⟨[0, 3], by decide, rfl⟩, ?_⟩ | refine StepTo.storeRow 2 rfl rfl rfl rfl rfl rfl rfl rfl (by omega) setQ ⟨⟨[0, 3], by decide, rfl⟩, ?_⟩ | refine StepTo.store1 3 rfl rfl rfl rfl rfl rfl rfl overQ setQ ⟨⟨[0, 3], by decide, rfl⟩, ?_⟩ | refine StepTo.storeA 3 rfl rfl rfl rfl rfl rfl rfl rfl overQ setQ ⟨⟨[0, 3], by decide, rfl⟩, ?_⟩ | refine StepTo.storeRow 3 rfl rfl rfl rfl rfl rfl rfl rfl (by omega) setQ ⟨⟨[0, 3], by decide, rfl⟩, ?_⟩ | refine StepTo.store1 4 rfl rfl rfl rfl rfl rfl rfl overQ setQ ⟨⟨[0, 3], by decide, rfl⟩, ?_⟩ | refine StepTo.storeA 4 rfl rfl rfl rfl rfl rfl rfl rfl overQ setQ ⟨⟨[0, 3], by decide, rfl⟩, ?_⟩ | refine StepTo.storeRow 4 rfl rfl rfl rfl rfl rfl rfl rfl (by omega) setQ ⟨⟨[0, 3], by decide, rfl⟩, ?_⟩ | refine StepTo.store1 5 rfl rfl rfl rfl rfl rfl rfl overQ setQ ⟨⟨[0, 3], by decide, rfl⟩, ?_⟩ | refine StepTo.storeA 5 rfl rfl rfl rfl rfl rfl rfl rfl overQ setQ ⟨⟨[0, 3], by decide, rfl⟩, ?_⟩ | refine StepTo.storeRow 5 rfl rfl rfl rfl rfl rfl rfl rfl (by omega) setQ ⟨⟨[0, 3], by decide, rfl⟩, ?_⟩
  refine WA.done (by kernel_rfl) ?_
  exact WQ.thenN (WQ.met _ _ [4, 5, 1, 2] (by repeat (first | exact Sub.nil | refine Sub.cons rfl ?_ | refine Sub.consE rfl (int_eq (by omega)) ?_)) ⟨by decide, rfl⟩ ⟨rfl, rfl⟩)
  rintro τ H ⟨rfl, rfl⟩
  repeat' (first
    | refine goS ?_
    | ((with_reducible refine WL.isN_load ?_); first | refine WL.yld rfl loadQ ?_)
    | ((with_reducible refine WL.isN_build ?_); first | refine WL.yld rfl buildQ ?_)
    | ((with_reducible refine WL.isN_box ?_); first | refine WL.step rfl (StepTo.boxA rfl rfl rfl rfl (fun _ => ?_)) | refine WL.step rfl (StepTo.box1 rfl rfl rfl rfl rfl (fun _ => ?_)))
    | ((with_reducible refine WL.isN_alloc ?_); first | refine WL.step rfl (StepTo.allocA rfl rfl rfl rfl (fun _ => ?_)) | refine WL.step rfl (StepTo.alloc1 rfl rfl rfl rfl rfl (fun _ => ?_)))
    | ((with_reducible refine WL.isN_store ?_); first | refine WL.step rfl (StepTo.st1 rfl rfl rfl rfl rfl rfl ?_) | refine WL.step rfl (StepTo.stA rfl rfl rfl rfl rfl rfl rfl ?_) | refine WL.step rfl (StepTo.stR rfl rfl rfl rfl rfl rfl rfl ?_))
    | with_reducible refine WC.block ?_
    | (refine WC.cond rfl (fun hc => ?_) (fun hc => ?_) <;> (try first | (with_reducible replace hc := of_decide_eq_true hc) | (with_reducible replace hc := of_decide_eq_false hc) | (with_reducible replace hc := eqT hc) | (with_reducible replace hc := eqF hc) | (with_reducible replace hc := neT hc) | (with_reducible replace hc := neF hc) | (with_reducible replace hc := noT hc) | (with_reducible replace hc := noF hc)) <;> (try (exfalso; omega))))
  refine WQ.ownRow 3 rfl fun okd own => ?_
  refine WQ.rowVw 3 rfl (by omega) ?_
  exact WQ.body (Reads.two rfl (Res1.cellA rfl rfl rfl rfl (AggAt.box 0 rfl rfl)) (Res1.cellA rfl rfl rfl rfl (AggAt.box 1 rfl rfl))) fun w' hw' => ⟨_, _, rfl, ⟨Ag, q, kg, Ad, m, kd, rfl, okg, okd, hq, hm.symm, rfl⟩, (hw'.pick (idx := [2, 3]) ⟨by decide, rfl⟩).toNew fun it hit hmi b hb => by
    rcases List.mem_cons.1 hit with rfl | hit
    · exact .inl (ownG b hb)
    · rw [List.mem_singleton] at hit
      subst hit
      exact .inl (own b (vw_blk hb))⟩
set_option maxHeartbeats 8000000 in
theorem gotDups_walk (c : Int) (A : Option Addr) (n k : Nat) (B : Option Addr) (m l : Nat) (xs ys : List Int) (x many : Int) (w : World) (hc : U32 c) (hL : Lst (ic .u32) 1 w w.heap.size A n xs) (hA : okA A n) (hnk : n ≤ k) (hx : ∀ a ∈ xs, U32 a) (hM : Lst (ic .u32) 1 w w.heap.size B m ys) (hB : okA B m) (hml : m ≤ l) (_hy : ∀ a ∈ ys, U32 a) (w1 : (Lit.int .u32 x).wf = true) (w2 : (Lit.int .i64 many).wf = true) :
    Calls Try.prog 6 #[gv c A n k B m l, .int .u32 x, .int .i64 many] w fun e w' => e = .returned (.bool true) ∧ Below w.heap.size w w' := by
  have hxu := u32_of w1
  have hl := hL.len
  have hm := hM.len
  have hnm := hL.most
  unfold maxLen at hnm
  rcases Gt.right_or c hc xs ys m hm hx with hR | ⟨hR, g, hg, rfl, rfl, rfl⟩
  · have rq := fun w hL => right_q c A n k B m l xs false (by simp [hR]) w hL
    refine enterW (fun _ => False) _ Try.func6 rfl (by simp only [Try.ntmps6, List.length_cons, List.length_nil, Nat.reduceAdd, Nat.reduceSub]; rfl) ?_
    refine WC.addVw (ic_len .u32) hL ?_
    repeat' (first
    | refine goS ?_
    | ((with_reducible refine WL.isN_bin ?_); first | refine WL.yld rfl binQ ?_)
    | ((with_reducible refine WL.isN_load ?_); first | refine WL.yld rfl loadQ ?_)
    | ((with_reducible refine WL.isN_call ?_); first | refine WL.step rfl (StepTo.callV (v := .bool true) (us := []) rfl rfl rfl rfl rfl (by kernel_rfl) (fun w hw => gshown_q w) ?_) | refine WL.step rfl (StepTo.callV (v := gv c A n k B m l) (us := [gv c A n k B m l]) rfl rfl rfl rfl rfl (by kernel_rfl) (fun w hw => as_q c A n k B m l w) ?_) | refine WL.step rfl (StepTo.callV (v := .bool false) (us := [gv c A n k B m l]) rfl rfl rfl rfl rfl (by kernel_rfl) (fun w hw => rq w (hw.lst 1 (ic_len .u32) (by omega) rfl)) ?_) | refine WL.yld rfl lenQ ?_)
    | ((with_reducible refine WL.isN_box ?_); first | refine WL.step rfl (StepTo.boxA rfl rfl rfl rfl (fun _ => ?_)) | refine WL.step rfl (StepTo.box1 rfl rfl rfl rfl rfl (fun _ => ?_)))
    | ((with_reducible refine WL.isN_alloc ?_); first | refine WL.step rfl (StepTo.allocA rfl rfl rfl rfl (fun _ => ?_)) | refine WL.step rfl (StepTo.alloc1 rfl rfl rfl rfl rfl (fun _ => ?_)))
    | ((with_reducible refine WL.isN_store ?_); first | refine WL.step rfl (StepTo.st1 rfl rfl rfl rfl rfl rfl ?_) | refine WL.step rfl (StepTo.stA rfl rfl rfl rfl rfl rfl rfl ?_) | refine WL.step rfl (StepTo.stR rfl rfl rfl rfl rfl rfl rfl ?_))
    | with_reducible refine WC.block ?_
    | (refine WC.cond rfl (fun hc => ?_) (fun hc => ?_) <;> (try first | (with_reducible replace hc := of_decide_eq_true hc) | (with_reducible replace hc := of_decide_eq_false hc) | (with_reducible replace hc := eqT hc) | (with_reducible replace hc := eqF hc) | (with_reducible replace hc := neT hc) | (with_reducible replace hc := neF hc) | (with_reducible replace hc := noT hc) | (with_reducible replace hc := noF hc)) <;> (try (exfalso; omega))))
    exact WQ.body (Reads.tmp rfl rfl) fun w' hw' => ⟨rfl, hw'.ext.below⟩
  have rq := fun w hL => right_q g.c A n k B m l (Gt.ab g.c g.D) true (by simp [hR]) w hL
  by_cases hout : 40 < n ∨ many < 0 ∨ 200 < many
  · rcases hout with h | h | h
    · refine enterW (fun _ => False) _ Try.func6 rfl (by simp only [Try.ntmps6, List.length_cons, List.length_nil, Nat.reduceAdd, Nat.reduceSub]; rfl) ?_
      refine WC.addVw (ic_len .u32) hL ?_
      repeat' (first
    | refine goS ?_
    | ((with_reducible refine WL.isN_bin ?_); first | refine WL.yld rfl binQ ?_)
    | ((with_reducible refine WL.isN_load ?_); first | refine WL.yld rfl loadQ ?_)
    | ((with_reducible refine WL.isN_call ?_); first | refine WL.step rfl (StepTo.callV (v := .bool true) (us := []) rfl rfl rfl rfl rfl (by kernel_rfl) (fun w hw => gshown_q w) ?_) | refine WL.step rfl (StepTo.callV (v := gv g.c A n k B m l) (us := [gv g.c A n k B m l]) rfl rfl rfl rfl rfl (by kernel_rfl) (fun w hw => as_q g.c A n k B m l w) ?_) | refine WL.step rfl (StepTo.callV (v := .bool true) (us := [gv g.c A n k B m l]) rfl rfl rfl rfl rfl (by kernel_rfl) (fun w hw => rq w (hw.lst 1 (ic_len .u32) (by omega) rfl)) ?_) | refine WL.yld rfl lenQ ?_)
    | ((with_reducible refine WL.isN_box ?_); first | refine WL.step rfl (StepTo.boxA rfl rfl rfl rfl (fun _ => ?_)) | refine WL.step rfl (StepTo.box1 rfl rfl rfl rfl rfl (fun _ => ?_)))
    | ((with_reducible refine WL.isN_alloc ?_); first | refine WL.step rfl (StepTo.allocA rfl rfl rfl rfl (fun _ => ?_)) | refine WL.step rfl (StepTo.alloc1 rfl rfl rfl rfl rfl (fun _ => ?_)))
    | ((with_reducible refine WL.isN_store ?_); first | refine WL.step rfl (StepTo.st1 rfl rfl rfl rfl rfl rfl ?_) | refine WL.step rfl (StepTo.stA rfl rfl rfl rfl rfl rfl rfl ?_) | refine WL.step rfl (StepTo.stR rfl rfl rfl rfl rfl rfl rfl ?_))
    | with_reducible refine WC.block ?_
    | (refine WC.cond rfl (fun hc => ?_) (fun hc => ?_) <;> (try first | (with_reducible replace hc := of_decide_eq_true hc) | (with_reducible replace hc := of_decide_eq_false hc) | (with_reducible replace hc := eqT hc) | (with_reducible replace hc := eqF hc) | (with_reducible replace hc := neT hc) | (with_reducible replace hc := neF hc) | (with_reducible replace hc := noT hc) | (with_reducible replace hc := noF hc)) <;> (try (exfalso; omega))))
      exact WQ.body (Reads.tmp rfl rfl) fun w' hw' => ⟨rfl, hw'.ext.below⟩
    · by_cases h40 : 40 < n
      · refine enterW (fun _ => False) _ Try.func6 rfl (by simp only [Try.ntmps6, List.length_cons, List.length_nil, Nat.reduceAdd, Nat.reduceSub]; rfl) ?_
        refine WC.addVw (ic_len .u32) hL ?_
        repeat' (first
    | refine goS ?_
    | ((with_reducible refine WL.isN_bin ?_); first | refine WL.yld rfl binQ ?_)
    | ((with_reducible refine WL.isN_load ?_); first | refine WL.yld rfl loadQ ?_)
    | ((with_reducible refine WL.isN_call ?_); first | refine WL.step rfl (StepTo.callV (v := .bool true) (us := []) rfl rfl rfl rfl rfl (by kernel_rfl) (fun w hw => gshown_q w) ?_) | refine WL.step rfl (StepTo.callV (v := gv g.c A n k B m l) (us := [gv g.c A n k B m l]) rfl rfl rfl rfl rfl (by kernel_rfl) (fun w hw => as_q g.c A n k B m l w) ?_) | refine WL.step rfl (StepTo.callV (v := .bool true) (us := [gv g.c A n k B m l]) rfl rfl rfl rfl rfl (by kernel_rfl) (fun w hw => rq w (hw.lst 1 (ic_len .u32) (by omega) rfl)) ?_) | refine WL.yld rfl lenQ ?_)
    | ((with_reducible refine WL.isN_box ?_); first | refine WL.step rfl (StepTo.boxA rfl rfl rfl rfl (fun _ => ?_)) | refine WL.step rfl (StepTo.box1 rfl rfl rfl rfl rfl (fun _ => ?_)))
    | ((with_reducible refine WL.isN_alloc ?_); first | refine WL.step rfl (StepTo.allocA rfl rfl rfl rfl (fun _ => ?_)) | refine WL.step rfl (StepTo.alloc1 rfl rfl rfl rfl rfl (fun _ => ?_)))
    | ((with_reducible refine WL.isN_store ?_); first | refine WL.step rfl (StepTo.st1 rfl rfl rfl rfl rfl rfl ?_) | refine WL.step rfl (StepTo.stA rfl rfl rfl rfl rfl rfl rfl ?_) | refine WL.step rfl (StepTo.stR rfl rfl rfl rfl rfl rfl rfl ?_))
    | with_reducible refine WC.block ?_
    | (refine WC.cond rfl (fun hc => ?_) (fun hc => ?_) <;> (try first | (with_reducible replace hc := of_decide_eq_true hc) | (with_reducible replace hc := of_decide_eq_false hc) | (with_reducible replace hc := eqT hc) | (with_reducible replace hc := eqF hc) | (with_reducible replace hc := neT hc) | (with_reducible replace hc := neF hc) | (with_reducible replace hc := noT hc) | (with_reducible replace hc := noF hc)) <;> (try (exfalso; omega))))
        exact WQ.body (Reads.tmp rfl rfl) fun w' hw' => ⟨rfl, hw'.ext.below⟩
      · refine enterW (fun _ => False) _ Try.func6 rfl (by simp only [Try.ntmps6, List.length_cons, List.length_nil, Nat.reduceAdd, Nat.reduceSub]; rfl) ?_
        refine WC.addVw (ic_len .u32) hL ?_
        repeat' (first
    | refine goS ?_
    | ((with_reducible refine WL.isN_bin ?_); first | refine WL.yld rfl binQ ?_)
    | ((with_reducible refine WL.isN_load ?_); first | refine WL.yld rfl loadQ ?_)
    | ((with_reducible refine WL.isN_call ?_); first | refine WL.step rfl (StepTo.callV (v := .bool true) (us := []) rfl rfl rfl rfl rfl (by kernel_rfl) (fun w hw => gshown_q w) ?_) | refine WL.step rfl (StepTo.callV (v := gv g.c A n k B m l) (us := [gv g.c A n k B m l]) rfl rfl rfl rfl rfl (by kernel_rfl) (fun w hw => as_q g.c A n k B m l w) ?_) | refine WL.step rfl (StepTo.callV (v := .bool true) (us := [gv g.c A n k B m l]) rfl rfl rfl rfl rfl (by kernel_rfl) (fun w hw => rq w (hw.lst 1 (ic_len .u32) (by omega) rfl)) ?_) | refine WL.yld rfl lenQ ?_)
    | ((with_reducible refine WL.isN_box ?_); first | refine WL.step rfl (StepTo.boxA rfl rfl rfl rfl (fun _ => ?_)) | refine WL.step rfl (StepTo.box1 rfl rfl rfl rfl rfl (fun _ => ?_)))
    | ((with_reducible refine WL.isN_alloc ?_); first | refine WL.step rfl (StepTo.allocA rfl rfl rfl rfl (fun _ => ?_)) | refine WL.step rfl (StepTo.alloc1 rfl rfl rfl rfl rfl (fun _ => ?_)))
    | ((with_reducible refine WL.isN_store ?_); first | refine WL.step rfl (StepTo.st1 rfl rfl rfl rfl rfl rfl ?_) | refine WL.step rfl (StepTo.stA rfl rfl rfl rfl rfl rfl rfl ?_) | refine WL.step rfl (StepTo.stR rfl rfl rfl rfl rfl rfl rfl ?_))
    | with_reducible refine WC.block ?_
    | (refine WC.cond rfl (fun hc => ?_) (fun hc => ?_) <;> (try first | (with_reducible replace hc := of_decide_eq_true hc) | (with_reducible replace hc := of_decide_eq_false hc) | (with_reducible replace hc := eqT hc) | (with_reducible replace hc := eqF hc) | (with_reducible replace hc := neT hc) | (with_reducible replace hc := neF hc) | (with_reducible replace hc := noT hc) | (with_reducible replace hc := noF hc)) <;> (try (exfalso; omega))))
        exact WQ.body (Reads.tmp rfl rfl) fun w' hw' => ⟨rfl, hw'.ext.below⟩
    · by_cases h40 : 40 < n
      · refine enterW (fun _ => False) _ Try.func6 rfl (by simp only [Try.ntmps6, List.length_cons, List.length_nil, Nat.reduceAdd, Nat.reduceSub]; rfl) ?_
        refine WC.addVw (ic_len .u32) hL ?_
        repeat' (first
    | refine goS ?_
    | ((with_reducible refine WL.isN_bin ?_); first | refine WL.yld rfl binQ ?_)
    | ((with_reducible refine WL.isN_load ?_); first | refine WL.yld rfl loadQ ?_)
    | ((with_reducible refine WL.isN_call ?_); first | refine WL.step rfl (StepTo.callV (v := .bool true) (us := []) rfl rfl rfl rfl rfl (by kernel_rfl) (fun w hw => gshown_q w) ?_) | refine WL.step rfl (StepTo.callV (v := gv g.c A n k B m l) (us := [gv g.c A n k B m l]) rfl rfl rfl rfl rfl (by kernel_rfl) (fun w hw => as_q g.c A n k B m l w) ?_) | refine WL.step rfl (StepTo.callV (v := .bool true) (us := [gv g.c A n k B m l]) rfl rfl rfl rfl rfl (by kernel_rfl) (fun w hw => rq w (hw.lst 1 (ic_len .u32) (by omega) rfl)) ?_) | refine WL.yld rfl lenQ ?_)
    | ((with_reducible refine WL.isN_box ?_); first | refine WL.step rfl (StepTo.boxA rfl rfl rfl rfl (fun _ => ?_)) | refine WL.step rfl (StepTo.box1 rfl rfl rfl rfl rfl (fun _ => ?_)))
    | ((with_reducible refine WL.isN_alloc ?_); first | refine WL.step rfl (StepTo.allocA rfl rfl rfl rfl (fun _ => ?_)) | refine WL.step rfl (StepTo.alloc1 rfl rfl rfl rfl rfl (fun _ => ?_)))
    | ((with_reducible refine WL.isN_store ?_); first | refine WL.step rfl (StepTo.st1 rfl rfl rfl rfl rfl rfl ?_) | refine WL.step rfl (StepTo.stA rfl rfl rfl rfl rfl rfl rfl ?_) | refine WL.step rfl (StepTo.stR rfl rfl rfl rfl rfl rfl rfl ?_))
    | with_reducible refine WC.block ?_
    | (refine WC.cond rfl (fun hc => ?_) (fun hc => ?_) <;> (try first | (with_reducible replace hc := of_decide_eq_true hc) | (with_reducible replace hc := of_decide_eq_false hc) | (with_reducible replace hc := eqT hc) | (with_reducible replace hc := eqF hc) | (with_reducible replace hc := neT hc) | (with_reducible replace hc := neF hc) | (with_reducible replace hc := noT hc) | (with_reducible replace hc := noF hc)) <;> (try (exfalso; omega))))
        exact WQ.body (Reads.tmp rfl rfl) fun w' hw' => ⟨rfl, hw'.ext.below⟩
      · refine enterW (fun _ => False) _ Try.func6 rfl (by simp only [Try.ntmps6, List.length_cons, List.length_nil, Nat.reduceAdd, Nat.reduceSub]; rfl) ?_
        refine WC.addVw (ic_len .u32) hL ?_
        repeat' (first
    | refine goS ?_
    | ((with_reducible refine WL.isN_bin ?_); first | refine WL.yld rfl binQ ?_)
    | ((with_reducible refine WL.isN_load ?_); first | refine WL.yld rfl loadQ ?_)
    | ((with_reducible refine WL.isN_call ?_); first | refine WL.step rfl (StepTo.callV (v := .bool true) (us := []) rfl rfl rfl rfl rfl (by kernel_rfl) (fun w hw => gshown_q w) ?_) | refine WL.step rfl (StepTo.callV (v := gv g.c A n k B m l) (us := [gv g.c A n k B m l]) rfl rfl rfl rfl rfl (by kernel_rfl) (fun w hw => as_q g.c A n k B m l w) ?_) | refine WL.step rfl (StepTo.callV (v := .bool true) (us := [gv g.c A n k B m l]) rfl rfl rfl rfl rfl (by kernel_rfl) (fun w hw => rq w (hw.lst 1 (ic_len .u32) (by omega) rfl)) ?_) | refine WL.yld rfl lenQ ?_)
    | ((with_reducible refine WL.isN_box ?_); first | refine WL.step rfl (StepTo.boxA rfl rfl rfl rfl (fun _ => ?_)) | refine WL.step rfl (StepTo.box1 rfl rfl rfl rfl rfl (fun _ => ?_)))
    | ((with_reducible refine WL.isN_alloc ?_); first | refine WL.step rfl (StepTo.allocA rfl rfl rfl rfl (fun _ => ?_)) | refine WL.step rfl (StepTo.alloc1 rfl rfl rfl rfl rfl (fun _ => ?_)))
    | ((with_reducible refine WL.isN_store ?_); first | refine WL.step rfl (StepTo.st1 rfl rfl rfl rfl rfl rfl ?_) | refine WL.step rfl (StepTo.stA rfl rfl rfl rfl rfl rfl rfl ?_) | refine WL.step rfl (StepTo.stR rfl rfl rfl rfl rfl rfl rfl ?_))
    | with_reducible refine WC.block ?_
    | (refine WC.cond rfl (fun hc => ?_) (fun hc => ?_) <;> (try first | (with_reducible replace hc := of_decide_eq_true hc) | (with_reducible replace hc := of_decide_eq_false hc) | (with_reducible replace hc := eqT hc) | (with_reducible replace hc := eqF hc) | (with_reducible replace hc := neT hc) | (with_reducible replace hc := neF hc) | (with_reducible replace hc := noT hc) | (with_reducible replace hc := noF hc)) <;> (try (exfalso; omega))))
        exact WQ.body (Reads.tmp rfl rfl) fun w' hw' => ⟨rfl, hw'.ext.below⟩
  rw [not_or, not_or] at hout
  obtain ⟨hn40, hmn0, hmn2⟩ := hout
  obtain ⟨M, rfl⟩ : ∃ M : Nat, many = M := ⟨many.toNat, by omega⟩
  have tq := fun w {V : Nat → Prop} hL hM hVA hVB => take_w (V := V) A n k B m l g x w hL hM hA hB hnk hml hg (by omega) hxu hVA hVB
  have hlen := Gt.take_len hg x
  have hok := Gt.take_ok hg x
  rw [Gt.ab_len] at hl
  have hdx : (x - g.c) % 4294967296 = (Gt.ds g.c x : Nat) := Gt.ds_eq g.c x
  have hc4 : ∀ d ∈ g.D, d < 4294967296 := fun d hd => by have := hg.D.hi d hd; omega
  by_cases hfar : Gt.has g.D (Gt.ds g.c x) = false ∧ 4000 < Gt.ds g.c x
  · rw [Gt.take_far hfar.1 hfar.2] at tq
    have hq1 := fun A' k' B' m' l' w hL => has_q A' n k' g.c x g.D B' m' l' w hL (by omega) hg.D.up hc4 hxu hg.c
    rw [hfar.1] at hq1
    have hf2 := hfar.2
    have hgd : (g.c == g.c) = true := beqT rfl
    refine enterW (fun _ => False) _ Try.func6 rfl (by simp only [Try.ntmps6, List.length_cons, List.length_nil, Nat.reduceAdd, Nat.reduceSub]; rfl) ?_
    refine WC.addVw (ic_len .u32) hM ?_
    refine WC.addVw (ic_len .u32) hL ?_
    repeat' (first
    | refine goS ?_
    | ((with_reducible refine WL.isN_bin ?_); first | refine WL.yld rfl binQ ?_)
    | ((with_reducible refine WL.isN_load ?_); first | refine WL.yld rfl loadQ ?_)
    | ((with_reducible refine WL.isN_call ?_); first | refine WL.step rfl (StepTo.callV (v := .bool true) (us := []) rfl rfl rfl rfl rfl (by kernel_rfl) (fun w hw => gshown_q w) ?_) | refine WL.step rfl (StepTo.callV (v := gv g.c A n k B m l) (us := [gv g.c A n k B m l]) rfl rfl rfl rfl rfl (by kernel_rfl) (fun w hw => as_q g.c A n k B m l w) ?_) | refine WL.step rfl (StepTo.callV (v := .bool true) (us := [gv g.c A n k B m l]) rfl rfl rfl rfl rfl (by kernel_rfl) (fun w hw => rq w (hw.lst 1 (ic_len .u32) (by omega) rfl)) ?_) | refine WL.yld rfl lenQ ?_)
    | ((with_reducible refine WL.isN_box ?_); first | refine WL.step rfl (StepTo.boxA rfl rfl rfl rfl (fun _ => ?_)) | refine WL.step rfl (StepTo.box1 rfl rfl rfl rfl rfl (fun _ => ?_)))
    | ((with_reducible refine WL.isN_alloc ?_); first | refine WL.step rfl (StepTo.allocA rfl rfl rfl rfl (fun _ => ?_)) | refine WL.step rfl (StepTo.alloc1 rfl rfl rfl rfl rfl (fun _ => ?_)))
    | ((with_reducible refine WL.isN_store ?_); first | refine WL.step rfl (StepTo.st1 rfl rfl rfl rfl rfl rfl ?_) | refine WL.step rfl (StepTo.stA rfl rfl rfl rfl rfl rfl rfl ?_) | refine WL.step rfl (StepTo.stR rfl rfl rfl rfl rfl rfl rfl ?_))
    | with_reducible refine WC.block ?_
    | (refine WC.cond rfl (fun hc => ?_) (fun hc => ?_) <;> (try first | (with_reducible replace hc := of_decide_eq_true hc) | (with_reducible replace hc := of_decide_eq_false hc) | (with_reducible replace hc := eqT hc) | (with_reducible replace hc := eqF hc) | (with_reducible replace hc := neT hc) | (with_reducible replace hc := neF hc) | (with_reducible replace hc := noT hc) | (with_reducible replace hc := noF hc)) <;> (try (exfalso; omega))))
    refine WL.step rfl (StepTo.callN [1, 2] (us := [gv g.c A n k B m l, .int .u32 x]) rfl rfl rfl rfl rfl (by kernel_rfl) (fun w hw => tq w (hw.lst 1 (ic_len .u32) (by omega) rfl) (hw.lst 2 (ic_len .u32) (by omega) rfl) (nearV.vs 1 rfl (by simp)) (nearV.vs 2 rfl (by simp))) ?_)
    rintro v N ⟨A1, n1, k1, B1, m1, l1, rfl, oA1, oB1, hn1, hm1, hk1, hl1, rfl⟩
    obtain rfl : n1 = n := hn1.trans hl
    dsimp only
    repeat' (first
    | refine goS ?_
    | ((with_reducible refine WL.isN_bin ?_); first | refine WL.yld rfl (Yld.pure rfl mU32) ?_ | refine WL.yld rfl binQ ?_)
    | ((with_reducible refine WL.isN_load ?_); first | refine WL.yld rfl loadQ ?_)
    | ((with_reducible refine WL.isN_call ?_); first | refine WL.step rfl (StepTo.callV (v := .bool false) (us := [gv g.c A1 n1 k1 B1 m1 l1, .int .u32 x]) rfl rfl rfl rfl rfl (by kernel_rfl) (fun w hw => hq1 A1 k1 B1 m1 l1 w (hw.lst 1 (ic_len .u32) (by omega) rfl)) ?_) | refine WL.step rfl (StepTo.callV (v := .bool true) (us := [.slice A1 n1 k1, .slice A n1 k]) rfl rfl rfl rfl rfl (by kernel_rfl) (fun w hw => nums_q A1 n1 k1 A n1 k (Gt.ab g.c g.D) (Gt.ab g.c g.D) true (by simp) w (hw.lst 1 (ic_len .u32) (by omega) rfl) (hw.lst 4 (ic_len .u32) (by omega) rfl) (by omega)) ?_) | refine WL.yld rfl lenQ ?_)
    | ((with_reducible refine WL.isN_box ?_); first | refine WL.step rfl (StepTo.boxA rfl rfl rfl rfl (fun _ => ?_)) | refine WL.step rfl (StepTo.box1 rfl rfl rfl rfl rfl (fun _ => ?_)))
    | ((with_reducible refine WL.isN_alloc ?_); first | refine WL.step rfl (StepTo.allocA rfl rfl rfl rfl (fun _ => ?_)) | refine WL.step rfl (StepTo.alloc1 rfl rfl rfl rfl rfl (fun _ => ?_)))
    | ((with_reducible refine WL.isN_store ?_); first | refine WL.step rfl (StepTo.st1 rfl rfl rfl rfl rfl rfl ?_) | refine WL.step rfl (StepTo.stA rfl rfl rfl rfl rfl rfl rfl ?_) | refine WL.step rfl (StepTo.stR rfl rfl rfl rfl rfl rfl rfl ?_))
    | with_reducible refine WC.block ?_
    | (refine WC.cond rfl (fun hc => ?_) (fun hc => ?_) <;> (try first | (with_reducible replace hc := of_decide_eq_true hc) | (with_reducible replace hc := of_decide_eq_false hc) | (with_reducible replace hc := eqT hc) | (with_reducible replace hc := eqF hc) | (with_reducible replace hc := neT hc) | (with_reducible replace hc := neF hc) | (with_reducible replace hc := noT hc) | (with_reducible replace hc := noF hc)) <;> (try (exfalso; omega))))
    exact WQ.body (Reads.tmp rfl rfl) fun w' hw' => ⟨by rw [hgd], hw'.ext.below⟩
  have hth := Gt.take_has hg hxu hfar
  generalize Gt.take g x = r at *
  obtain ⟨g', y⟩ := r
  simp only at hlen hok hth
  have hc4' : ∀ d ∈ g'.D, d < 4294967296 := fun d hd => by have := hok.D.hi d hd; omega
  refine enterW (fun _ => False) _ Try.func6 rfl (by simp only [Try.ntmps6, List.length_cons, List.length_nil, Nat.reduceAdd, Nat.reduceSub]; rfl) ?_
  refine WC.addVw (ic_len .u32) hM ?_
  refine WC.addVw (ic_len .u32) hL ?_
  repeat' (first
    | refine goS ?_
    | ((with_reducible refine WL.isN_bin ?_); first | refine WL.yld rfl binQ ?_)
    | ((with_reducible refine WL.isN_load ?_); first | refine WL.yld rfl loadQ ?_)
    | ((with_reducible refine WL.isN_call ?_); first | refine WL.step rfl (StepTo.callV (v := .bool true) (us := []) rfl rfl rfl rfl rfl (by kernel_rfl) (fun w hw => gshown_q w) ?_) | refine WL.step rfl (StepTo.callV (v := gv g.c A n k B m l) (us := [gv g.c A n k B m l]) rfl rfl rfl rfl rfl (by kernel_rfl) (fun w hw => as_q g.c A n k B m l w) ?_) | refine WL.step rfl (StepTo.callV (v := .bool true) (us := [gv g.c A n k B m l]) rfl rfl rfl rfl rfl (by kernel_rfl) (fun w hw => rq w (hw.lst 1 (ic_len .u32) (by omega) rfl)) ?_) | refine WL.yld rfl lenQ ?_)
    | ((with_reducible refine WL.isN_box ?_); first | refine WL.step rfl (StepTo.boxA rfl rfl rfl rfl (fun _ => ?_)) | refine WL.step rfl (StepTo.box1 rfl rfl rfl rfl rfl (fun _ => ?_)))
    | ((with_reducible refine WL.isN_alloc ?_); first | refine WL.step rfl (StepTo.allocA rfl rfl rfl rfl (fun _ => ?_)) | refine WL.step rfl (StepTo.alloc1 rfl rfl rfl rfl rfl (fun _ => ?_)))
    | ((with_reducible refine WL.isN_store ?_); first | refine WL.step rfl (StepTo.st1 rfl rfl rfl rfl rfl rfl ?_) | refine WL.step rfl (StepTo.stA rfl rfl rfl rfl rfl rfl rfl ?_) | refine WL.step rfl (StepTo.stR rfl rfl rfl rfl rfl rfl rfl ?_))
    | with_reducible refine WC.block ?_
    | (refine WC.cond rfl (fun hc => ?_) (fun hc => ?_) <;> (try first | (with_reducible replace hc := of_decide_eq_true hc) | (with_reducible replace hc := of_decide_eq_false hc) | (with_reducible replace hc := eqT hc) | (with_reducible replace hc := eqF hc) | (with_reducible replace hc := neT hc) | (with_reducible replace hc := neF hc) | (with_reducible replace hc := noT hc) | (with_reducible replace hc := noF hc)) <;> (try (exfalso; omega))))
  refine WL.step rfl (StepTo.callN [1, 2] (us := [gv g.c A n k B m l, .int .u32 x]) rfl rfl rfl rfl rfl (by kernel_rfl) (fun w hw => tq w (hw.lst 1 (ic_len .u32) (by omega) rfl) (hw.lst 2 (ic_len .u32) (by omega) rfl) (nearV.vs 1 rfl (by simp)) (nearV.vs 2 rfl (by simp))) ?_)
  rintro v N ⟨A1, n1, k1, B1, m1, l1, rfl, oA1, oB1, hn1, hm1, hk1, hl1, rfl⟩
  simp only at hn1 hm1
  dsimp only
  have hq1 := fun w hL => has_q A1 n1 k1 g'.c x g'.D B1 m1 l1 w hL (by omega) hok.D.up hc4' hxu hok.c
  rw [hth] at hq1
  repeat' (first
    | refine goS ?_
    | ((with_reducible refine WL.isN_bin ?_); first | refine WL.yld rfl binQ ?_)
    | ((with_reducible refine WL.isN_load ?_); first | refine WL.yld rfl loadQ ?_)
    | ((with_reducible refine WL.isN_call ?_); first | refine WL.step rfl (StepTo.callV (v := .bool true) (us := [gv g'.c A1 n1 k1 B1 m1 l1, .int .u32 x]) rfl rfl rfl rfl rfl (by kernel_rfl) (fun w hw => hq1 w (hw.lst 1 (ic_len .u32) (by omega) rfl)) ?_) | refine WL.yld rfl lenQ ?_)
    | ((with_reducible refine WL.isN_box ?_); first | refine WL.step rfl (StepTo.boxA rfl rfl rfl rfl (fun _ => ?_)) | refine WL.step rfl (StepTo.box1 rfl rfl rfl rfl rfl (fun _ => ?_)))
    | ((with_reducible refine WL.isN_alloc ?_); first | refine WL.step rfl (StepTo.allocA rfl rfl rfl rfl (fun _ => ?_)) | refine WL.step rfl (StepTo.alloc1 rfl rfl rfl rfl rfl (fun _ => ?_)))
    | ((with_reducible refine WL.isN_store ?_); first | refine WL.step rfl (StepTo.st1 rfl rfl rfl rfl rfl rfl ?_) | refine WL.step rfl (StepTo.stA rfl rfl rfl rfl rfl rfl rfl ?_) | refine WL.step rfl (StepTo.stR rfl rfl rfl rfl rfl rfl rfl ?_))
    | with_reducible refine WC.block ?_
    | (refine WC.cond rfl (fun hc => ?_) (fun hc => ?_) <;> (try first | (with_reducible replace hc := of_decide_eq_true hc) | (with_reducible replace hc := of_decide_eq_false hc) | (with_reducible replace hc := eqT hc) | (with_reducible replace hc := eqF hc) | (with_reducible replace hc := neT hc) | (with_reducible replace hc := neF hc) | (with_reducible replace hc := noT hc) | (with_reducible replace hc := noF hc)) <;> (try (exfalso; omega))))
  rename_i b3 b9
  have hdu1 := hok.du
  refine WC.loop (fun mm τ H => ∃ (i : Nat) (A2 : Option Addr) (k2 : Nat) (B2 : Option Addr) (m2 l2 : Nat) (du : List Int), i ≤ M ∧ mm = M - i ∧ okA A2 n1 ∧ okA B2 m2 ∧ n1 ≤ k2 ∧ m2 ≤ l2 ∧ m2 = du.length ∧ du.length = min (m1 + i) 100 ∧
      τ = [(1, .int .u32 x), (2, .int .i64 (M : Nat)), (9, .pointer (some ⟨b9, 0, none⟩)), (11, .int .i64 (m1 : Nat)), (12, .int .i64 (i : Nat))] ∧
      H = [.box b9 25 [.int .u32 g'.c, .slice A2 n1 k2, .slice B2 m2 l2], .vw A2 n1 1 (flat (ic .u32) (Gt.ab g'.c g'.D)), .vw B2 m2 1 (flat (ic .u32) du)]) M _ _ [0, 1, 2] ?_ ?_ ⟨0, A1, k1, B1, m1, l1, g'.du, by omega, rfl, oA1, oB1, hk1, hl1, hm1, by omega, rfl, rfl⟩ ?_
  · exact (by repeat (first | exact Sub.nil | refine Sub.cons rfl ?_ | refine Sub.consE rfl (int_eq (by omega)) ?_))
  · exact ⟨by decide, rfl⟩
  clear tq rq hq1 oA1 oB1 hk1 hl1
  rintro mm τ H ⟨i, A2, k2, B2, m2, l2, du, hi, rfl, oA2, oB2, hk2, hl2, hm2, hdl, rfl, rfl⟩
  have hgi : Gt.G.Ok ⟨g'.c, g'.D, du⟩ := ⟨hok.c, hok.D, by show du.length ≤ 100; omega⟩
  by_cases hiM : i < M
  · have tq := fun w {V : Nat → Prop} hL hM hVA hVB => take_w (V := V) A2 n1 k2 B2 m2 l2 ⟨g'.c, g'.D, du⟩ x w hL hM oA2 oB2 hk2 hl2 hgi (by omega) hxu hVA hVB
    rw [Gt.take_old (g := ⟨g'.c, g'.D, du⟩) hth] at tq
    have hg1 : (g'.c != g'.c) = false := bneF rfl
    repeat' (first
    | refine goS ?_
    | ((with_reducible refine WL.isN_bin ?_); first | refine WL.yld rfl binQ ?_)
    | ((with_reducible refine WL.isN_load ?_); first | refine WL.yld rfl loadQ ?_)
    | ((with_reducible refine WL.isN_call ?_); first | refine WL.yld rfl lenQ ?_)
    | ((with_reducible refine WL.isN_box ?_); first | refine WL.step rfl (StepTo.boxA rfl rfl rfl rfl (fun _ => ?_)) | refine WL.step rfl (StepTo.box1 rfl rfl rfl rfl rfl (fun _ => ?_)))
    | ((with_reducible refine WL.isN_alloc ?_); first | refine WL.step rfl (StepTo.allocA rfl rfl rfl rfl (fun _ => ?_)) | refine WL.step rfl (StepTo.alloc1 rfl rfl rfl rfl rfl (fun _ => ?_)))
    | ((with_reducible refine WL.isN_store ?_); first | refine WL.step rfl (StepTo.st1 rfl rfl rfl rfl rfl rfl ?_) | refine WL.step rfl (StepTo.stA rfl rfl rfl rfl rfl rfl rfl ?_) | refine WL.step rfl (StepTo.stR rfl rfl rfl rfl rfl rfl rfl ?_))
    | with_reducible refine WC.block ?_
    | (refine WC.cond rfl (fun hc => ?_) (fun hc => ?_) <;> (try first | (with_reducible replace hc := of_decide_eq_true hc) | (with_reducible replace hc := of_decide_eq_false hc) | (with_reducible replace hc := eqT hc) | (with_reducible replace hc := eqF hc) | (with_reducible replace hc := neT hc) | (with_reducible replace hc := neF hc) | (with_reducible replace hc := noT hc) | (with_reducible replace hc := noF hc)) <;> (try (exfalso; omega))))
    refine WL.step rfl (StepTo.callN [1, 2] (us := [gv g'.c A2 n1 k2 B2 m2 l2, .int .u32 x]) rfl rfl rfl rfl rfl (by kernel_rfl) (fun w hw => tq w (hw.lst 1 (ic_len .u32) (by omega) rfl) (hw.lst 2 (ic_len .u32) (by omega) rfl) (nearV.vs 1 rfl (by simp)) (nearV.vs 2 rfl (by simp))) ?_)
    rintro v N ⟨A3, n3, k3, B3, m3, l3, rfl, oA3, oB3, hn3, hm3, hk3, hl3, rfl⟩
    obtain rfl : n3 = n1 := hn3.trans hn1.symm
    dsimp only at hm3 ⊢
    have hdl3 : m3 = min (m1 + (i + 1)) 100 := by
      rw [hm3]
      split
      · rw [List.length_append]; simp; omega
      · omega
    generalize (if du.length < 100 then du ++ [x] else du) = du3 at *
    repeat' (first
    | refine goS ?_
    | ((with_reducible refine WL.isN_bin ?_); first | refine WL.yld rfl binQ ?_)
    | ((with_reducible refine WL.isN_load ?_); first | refine WL.yld rfl loadQ ?_)
    | ((with_reducible refine WL.isN_call ?_); first | refine WL.yld rfl lenQ ?_)
    | ((with_reducible refine WL.isN_box ?_); first | refine WL.step rfl (StepTo.boxA rfl rfl rfl rfl (fun _ => ?_)) | refine WL.step rfl (StepTo.box1 rfl rfl rfl rfl rfl (fun _ => ?_)))
    | ((with_reducible refine WL.isN_alloc ?_); first | refine WL.step rfl (StepTo.allocA rfl rfl rfl rfl (fun _ => ?_)) | refine WL.step rfl (StepTo.alloc1 rfl rfl rfl rfl rfl (fun _ => ?_)))
    | ((with_reducible refine WL.isN_store ?_); first | refine WL.step rfl (StepTo.st1 rfl rfl rfl rfl rfl rfl ?_) | refine WL.step rfl (StepTo.stA rfl rfl rfl rfl rfl rfl rfl ?_) | refine WL.step rfl (StepTo.stR rfl rfl rfl rfl rfl rfl rfl ?_))
    | with_reducible refine WC.block ?_
    | (refine WC.cond rfl (fun hc => ?_) (fun hc => ?_) <;> (try first | (with_reducible replace hc := of_decide_eq_true hc) | (with_reducible replace hc := of_decide_eq_false hc) | (with_reducible replace hc := eqT hc) | (with_reducible replace hc := eqF hc) | (with_reducible replace hc := neT hc) | (with_reducible replace hc := neF hc) | (with_reducible replace hc := noT hc) | (with_reducible replace hc := noF hc)) <;> (try (exfalso; omega))))
    exact WQ.rnd (M - (i + 1)) _ _ [3, 1, 2] (by repeat (first | exact Sub.nil | refine Sub.cons rfl ?_ | refine Sub.consE rfl (int_eq (by omega)) ?_)) ⟨by decide, rfl⟩ (by omega) ⟨i + 1, A3, k3, B3, m3, l3, du3, by omega, rfl, oA3, oB3, hk3, hl3, hm3, by omega, rfl, rfl⟩
  obtain rfl : i = M := by omega
  have sq := fun w {V : Nat → Prop} hL hM => sack_w (V := V) A2 n1 k2 B2 m2 l2 ⟨g'.c, g'.D, du⟩ 5 w hL hM oA2 oB2 hgi (by omega)
  repeat' (first
    | refine goS ?_
    | ((with_reducible refine WL.isN_bin ?_); first | refine WL.yld rfl binQ ?_)
    | ((with_reducible refine WL.isN_load ?_); first | refine WL.yld rfl loadQ ?_)
    | ((with_reducible refine WL.isN_call ?_); first | refine WL.yld rfl lenQ ?_)
    | ((with_reducible refine WL.isN_box ?_); first | refine WL.step rfl (StepTo.boxA rfl rfl rfl rfl (fun _ => ?_)) | refine WL.step rfl (StepTo.box1 rfl rfl rfl rfl rfl (fun _ => ?_)))
    | ((with_reducible refine WL.isN_alloc ?_); first | refine WL.step rfl (StepTo.allocA rfl rfl rfl rfl (fun _ => ?_)) | refine WL.step rfl (StepTo.alloc1 rfl rfl rfl rfl rfl (fun _ => ?_)))
    | ((with_reducible refine WL.isN_store ?_); first | refine WL.step rfl (StepTo.st1 rfl rfl rfl rfl rfl rfl ?_) | refine WL.step rfl (StepTo.stA rfl rfl rfl rfl rfl rfl rfl ?_) | refine WL.step rfl (StepTo.stR rfl rfl rfl rfl rfl rfl rfl ?_))
    | with_reducible refine WC.block ?_
    | (refine WC.cond rfl (fun hc => ?_) (fun hc => ?_) <;> (try first | (with_reducible replace hc := of_decide_eq_true hc) | (with_reducible replace hc := of_decide_eq_false hc) | (with_reducible replace hc := eqT hc) | (with_reducible replace hc := eqF hc) | (with_reducible replace hc := neT hc) | (with_reducible replace hc := neF hc) | (with_reducible replace hc := noT hc) | (with_reducible replace hc := noF hc)) <;> (try (exfalso; omega))))
  refine WL.step rfl (StepTo.callN [] (us := [gv g'.c A2 n1 k2 B2 m2 l2, .int .u32 5]) rfl rfl rfl rfl rfl (by kernel_rfl) (fun w hw => sq w (hw.lst 1 (ic_len .u32) (by omega) rfl) (hw.lst 2 (ic_len .u32) (by omega) rfl)) ?_)
  rintro v N ⟨Ag, q, kg, Ad, md, kd, rfl, okg, okd, hq, hmd, rfl⟩
  simp only at hmd
  obtain rfl : md = m2 := hmd.trans hm2.symm
  have hmin : Value.int .i64 (min ((m1 : Int) + (i : Int)) 100) = .int .i64 (md : Nat) := by congr 1; omega
  have hg1 : ((md : Int) == (md : Int)) = true := beqT rfl
  repeat' (first
    | refine goS ?_
    | ((with_reducible refine WL.isN_bin ?_); first | refine WL.yld rfl binQ ?_)
    | ((with_reducible refine WL.isN_load ?_); first | refine WL.yld rfl loadQ ?_)
    | ((with_reducible refine WL.isN_call ?_); first | refine WL.yld rfl (Yld.as (Yld.minI rfl rfl rfl) hmin) ?_ | refine WL.yld rfl lenQ ?_)
    | ((with_reducible refine WL.isN_box ?_); first | refine WL.step rfl (StepTo.boxA rfl rfl rfl rfl (fun _ => ?_)) | refine WL.step rfl (StepTo.box1 rfl rfl rfl rfl rfl (fun _ => ?_)))
    | ((with_reducible refine WL.isN_alloc ?_); first | refine WL.step rfl (StepTo.allocA rfl rfl rfl rfl (fun _ => ?_)) | refine WL.step rfl (StepTo.alloc1 rfl rfl rfl rfl rfl (fun _ => ?_)))
    | ((with_reducible refine WL.isN_store ?_); first | refine WL.step rfl (StepTo.st1 rfl rfl rfl rfl rfl rfl ?_) | refine WL.step rfl (StepTo.stA rfl rfl rfl rfl rfl rfl rfl ?_) | refine WL.step rfl (StepTo.stR rfl rfl rfl rfl rfl rfl rfl ?_))
    | with_reducible refine WC.block ?_
    | (refine WC.cond rfl (fun hc => ?_) (fun hc => ?_) <;> (try first | (with_reducible replace hc := of_decide_eq_true hc) | (with_reducible replace hc := of_decide_eq_false hc) | (with_reducible replace hc := eqT hc) | (with_reducible replace hc := eqF hc) | (with_reducible replace hc := neT hc) | (with_reducible replace hc := neF hc) | (with_reducible replace hc := noT hc) | (with_reducible replace hc := noF hc)) <;> (try (exfalso; omega))))
  exact WQ.body (Reads.tmp rfl rfl) fun w' hw' => ⟨rfl, hw'.ext.below⟩
end Go.Proofs.Ythbhjnmkbmmcnaa
