/- Paths of the program: what one of them turns to. -/
import Derived.Test.YtdfpfnofaiobgaaPthR
import Derived.Test.YtdfpfnofaiobgaaRw
namespace Go.Proofs.Ytdfpfnofaiobgaa
open Go.RowKit
open Go.Proofs.Ytdfpfnofaiobgaa.Rto Go.Proofs.Ytdfpfnofaiobgaa.Win Go.Proofs.Ytdfpfnofaiobgaa.Pth
set_option linter.unusedVariables false
set_option maxRecDepth 100000

def Pth.Pth.cs (p : Pth) : List Value := [.string p.addr, .int .i64 p.state, .int .i64 p.errors, .int .i64 p.srtt, .int .i64 p.var, .int .i64 p.rto, .int .i64 p.backs, .bool p.known, .int .i64 p.cwnd, .int .i64 p.ssth, .int .i64 p.part, .int .u32 p.nonce, .int .i64 p.beaten, .int .i64 p.sent]
theorem cs_len (p : Pth) : p.cs.length = 14 := rfl
theorem cs_one (p : Pth) : ∀ u ∈ p.cs, u.oneCell' = true := by
  intro u hu
  simp only [Pth.Pth.cs, List.mem_cons, List.not_mem_nil, or_false] at hu
  rcases hu with rfl | rfl | rfl | rfl | rfl | rfl | rfl | rfl | rfl | rfl | rfl | rfl | rfl | rfl <;> rfl
abbrev Ps := Lst Pth.cs 14
/-- What holds of the numbers of a path. -/
structure POk (p : Pth) : Prop where
  state : -9223372036854775808 ≤ p.state ∧ p.state ≤ 9223372036854775807
  errors : -9223372036854775808 ≤ p.errors ∧ p.errors ≤ 9223372036854775807
  backs : -9223372036854775808 ≤ p.backs ∧ p.backs ≤ 9223372036854775807
abbrev rowP (b m c : Nat) (l : List Pth) : Item := .row (some ⟨b, 0, none⟩) m c 48 14 (flat Pth.cs l)
/-- A closure that turns a path. -/
def Upd (fid : FuncId) (caps : List Value) (g : Pth → Pth) (C1 C2 : Item) : Prop := ∀ (w : World) (b m c i : Nat) (l : List Pth) (p : Pth), l[i]? = some p → POk p → Sat w (Bs [rowP b m c l]) [rowP b m c l, C1, C2] w →
  Calls Try.prog fid (.pointer (some ⟨b, 0 + i * 14, none⟩) :: caps).toArray w fun e w' => ∃ v N, e = .returned v ∧ (v = .tuple #[] ∧ N = [rowP b m c (l.set i (g p))]) ∧ Mod (Bs [rowP b m c l]) N w w'
theorem updEnd {w w' : World} {b m c i : Nat} {l : List Pth} {p q : Pth} {ys : List Value} {C : List Item} {D : Nat → Prop} (hi : l[i]? = some p) (hw : Sat w D (.row (some ⟨b, 0, none⟩) m c 48 14 ys :: C) w') (h : Out (flat Pth.cs l) ys (i * 14) 14) (hp : PartAt ys (i * 14) q.cs) :
    ∃ v N, Ending.returned (.tuple #[]) = .returned v ∧ (v = .tuple #[] ∧ N = [rowP b m c (l.set i q)]) ∧ Mod D N w w' := by
  have e := flat_out cs_len (List.getElem?_eq_some_iff.1 hi).1 h hp
  subst e
  exact ⟨_, _, rfl, ⟨rfl, rfl⟩, (hw.pick (idx := [0]) ⟨by decide, rfl⟩).toMod (by simp [Item.mine])⟩
theorem nW64 {x : Int} : Value.int .i64 (IntKind.i64.wrap x) = .int .i64 (w64 x) := by rw [IntKind.wrap_i64]; rfl

theorem beat1_w (nonce now : Int) (bn bo : Nat) : Upd 52 [.pointer (some ⟨bn, 0, none⟩), .pointer (some ⟨bo, 0, none⟩)] (beat nonce now) (.vw (some ⟨bn, 0, none⟩) 1 1 [.int .u32 nonce]) (.vw (some ⟨bo, 0, none⟩) 1 1 [.int .i64 now]) := by
  intro w b m c i l p hp hok hS
  have hpp : PartAt (flat Pth.cs l) (i * 14) p.cs := PartAt.flat cs_len hp
  have h1 : PartAt [Value.int .u32 nonce] 0 [Value.int .u32 nonce] := fun j u hu => by simpa using hu
  have h2 : PartAt [Value.int .i64 now] 0 [Value.int .i64 now] := fun j u hu => by simpa using hu
  refine enterM _ _ hS Try.func52 rfl (by simp only [Try.ntmps52, List.length_cons, List.length_nil, Nat.reduceAdd, Nat.reduceSub]; rfl) ?_
  repeat' (first
    | with_reducible refine WL.nil ?_
    | with_reducible refine WQ.thenN ?_
    | with_reducible refine WQ.code ?_
    | with_reducible refine WC.seq ?_
    | with_reducible refine WC.region ?_
    | ((with_reducible refine WL.isN_move ?_); first | refine WL.yld rfl (Yld.pure rfl nrmQ) ?_)
    | ((with_reducible refine WL.isN_nil ?_); first | refine WL.yld rfl (Yld.pure rfl nrmQ) ?_)
    | ((with_reducible refine WL.isN_load ?_); first | refine WL.yld rfl (Yld.load rfl rfl rfl rfl cellQ) ?_ | refine WL.yld rfl (Yld.loadAgg rfl rfl rfl rfl rfl aggQ) ?_)
    | ((with_reducible refine WL.isN_faddr ?_); first | refine WL.yld rfl (Yld.fieldAddr rfl rfl rfl rfl rfl rfl rfl) ?_)
    | ((with_reducible refine WL.isN_store ?_); first | refine WL.step rfl (StepTo.st1 rfl rfl rfl rfl rfl rfl ?_) | refine WL.step rfl (StepTo.stA rfl rfl rfl rfl rfl rfl rfl ?_) | refine WL.step rfl (StepTo.stR rfl rfl rfl rfl rfl rfl rfl ?_))
    | with_reducible refine WC.block ?_
    | with_reducible refine WC.scope ?_
    | with_reducible refine WC.label ?_
    | with_reducible refine WQ.ngN ?_
    | with_reducible refine WQ.ngR ?_
    | with_reducible refine WQ.ngX ?_
    | with_reducible refine WC.skip ?_
    | with_reducible refine WC.ret ?_
    | with_reducible refine WC.exit ?_
    | with_reducible refine WQ.thenR ?_
    | with_reducible refine WQ.thenX ?_
    | with_reducible refine WQ.blkN ?_
    | with_reducible refine WQ.blkR ?_
    | ((with_reducible refine WQ.blkX ?_ ?_); focus rfl)
    | ((with_reducible refine WQ.blkY ?_ ?_); focus rfl)
    | refine WC.condT rfl ?_
    | refine WC.condF rfl ?_
    | refine WC.condTh rfl gdQ ?_
    | refine WC.condFh rfl gdQ ?_
    | (refine WC.cond rfl (fun hc => ?_) (fun hc => ?_) <;> (try first | (with_reducible replace hc := of_decide_eq_true hc) | (with_reducible replace hc := of_decide_eq_false hc) | (with_reducible replace hc := eqT hc) | (with_reducible replace hc := eqF hc) | (with_reducible replace hc := neT hc) | (with_reducible replace hc := neF hc) | (with_reducible replace hc := noT hc) | (with_reducible replace hc := noF hc)) <;> (try (exfalso; omega))))
  refine WC.anyI [1, 2] (by kernel_rfl) ?_
  refine WA.take (idx := [1, 2]) 0 rfl (by kernel_rfl) (by kernel_rfl) (by kernel_rfl) rfl ⟨by decide, rfl⟩ (Yld.pure rfl nrmQ) ?_
  refine WA.take (idx := [1, 2]) 1 rfl (by kernel_rfl) (by kernel_rfl) (by kernel_rfl) rfl ⟨by decide, rfl⟩ (Yld.pure rfl nrmQ) ?_
  refine WA.take (idx := [1, 2]) 2 rfl (by kernel_rfl) (by kernel_rfl) (by kernel_rfl) rfl ⟨by decide, rfl⟩ (Yld.pure rfl nrmQ) ?_
  refine WA.take (idx := [1, 2]) 3 rfl (by kernel_rfl) (by kernel_rfl) (by kernel_rfl) rfl ⟨by decide, rfl⟩ (by first | exact Yld.load rfl rfl rfl rfl (CellsAt.at0 (CellsAt.vwAll 0 rfl)) | exact Yld.load rfl rfl rfl rfl (CellsAt.at0 (CellsAt.vwAll 1 rfl)) | exact Yld.load rfl rfl rfl rfl cellQ | exact Yld.loadAgg rfl rfl rfl rfl rfl aggQ) ?_
  refine WA.take (idx := [1, 2]) 4 rfl (by kernel_rfl) (by kernel_rfl) (by kernel_rfl) rfl ⟨by decide, rfl⟩ (by first | exact Yld.load rfl rfl rfl rfl (CellsAt.at0 (CellsAt.vwAll 0 rfl)) | exact Yld.load rfl rfl rfl rfl (CellsAt.at0 (CellsAt.vwAll 1 rfl)) | exact Yld.load rfl rfl rfl rfl cellQ | exact Yld.loadAgg rfl rfl rfl rfl rfl aggQ) ?_
  refine WA.take (idx := [1, 2]) 5 rfl (by kernel_rfl) (by kernel_rfl) (by kernel_rfl) rfl ⟨by decide, rfl⟩ (Yld.pure rfl nrmQ) ?_
  refine WA.take (idx := [1, 2]) 6 rfl (by kernel_rfl) (by kernel_rfl) (by kernel_rfl) rfl ⟨by decide, rfl⟩ (Yld.fieldAddr rfl rfl rfl rfl rfl rfl rfl) ?_
  refine WA.one 7 (by kernel_rfl) rfl rfl ?_
  refine StepTo.sRW 0 rfl rfl rfl rfl rfl rfl rfl rfl (by assumption) rfl overQ (fun _ _ _ => ⟨_, setQ, ⟨[1, 2], by decide, rfl⟩, ?_⟩)
  refine WA.take (idx := [1, 2]) 8 rfl (by kernel_rfl) (by kernel_rfl) (by kernel_rfl) rfl ⟨by decide, rfl⟩ (Yld.pure rfl nrmQ) ?_
  refine WA.take (idx := [1, 2]) 9 rfl (by kernel_rfl) (by kernel_rfl) (by kernel_rfl) rfl ⟨by decide, rfl⟩ (Yld.fieldAddr rfl rfl rfl rfl rfl rfl rfl) ?_
  refine WA.one 10 (by kernel_rfl) rfl rfl ?_
  refine StepTo.sRW 0 rfl rfl rfl rfl rfl rfl rfl rfl (by assumption) rfl overQ (fun _ _ _ => ⟨_, setQ, ⟨[1, 2], by decide, rfl⟩, ?_⟩)
  refine WA.take (idx := [1, 2]) 11 rfl (by kernel_rfl) (by kernel_rfl) (by kernel_rfl) rfl ⟨by decide, rfl⟩ (Yld.pure rfl nrmQ) ?_
  refine WA.take (idx := [1, 2]) 12 rfl (by kernel_rfl) (by kernel_rfl) (by kernel_rfl) rfl ⟨by decide, rfl⟩ (Yld.fieldAddr rfl rfl rfl rfl rfl rfl rfl) ?_
  refine WA.one 13 (by kernel_rfl) rfl rfl ?_
  refine StepTo.sRW 0 rfl rfl rfl rfl rfl rfl rfl rfl (by assumption) rfl overQ (fun _ _ _ => ⟨_, setQ, ⟨[1, 2], by decide, rfl⟩, ?_⟩)
  refine WA.done (by kernel_rfl) ?_
  repeat' (first
    | with_reducible refine WL.nil ?_
    | with_reducible refine WQ.thenN ?_
    | with_reducible refine WQ.code ?_
    | with_reducible refine WC.seq ?_
    | with_reducible refine WC.region ?_
    | ((with_reducible refine WL.isN_move ?_); first | refine WL.yld rfl (Yld.pure rfl nrmQ) ?_)
    | ((with_reducible refine WL.isN_nil ?_); first | refine WL.yld rfl (Yld.pure rfl nrmQ) ?_)
    | ((with_reducible refine WL.isN_load ?_); first | refine WL.yld rfl (Yld.load rfl rfl rfl rfl cellQ) ?_ | refine WL.yld rfl (Yld.loadAgg rfl rfl rfl rfl rfl aggQ) ?_)
    | ((with_reducible refine WL.isN_faddr ?_); first | refine WL.yld rfl (Yld.fieldAddr rfl rfl rfl rfl rfl rfl rfl) ?_)
    | ((with_reducible refine WL.isN_store ?_); first | refine WL.step rfl (StepTo.st1 rfl rfl rfl rfl rfl rfl ?_) | refine WL.step rfl (StepTo.stA rfl rfl rfl rfl rfl rfl rfl ?_) | refine WL.step rfl (StepTo.stR rfl rfl rfl rfl rfl rfl rfl ?_))
    | with_reducible refine WC.block ?_
    | with_reducible refine WC.scope ?_
    | with_reducible refine WC.label ?_
    | with_reducible refine WQ.ngN ?_
    | with_reducible refine WQ.ngR ?_
    | with_reducible refine WQ.ngX ?_
    | with_reducible refine WC.skip ?_
    | with_reducible refine WC.ret ?_
    | with_reducible refine WC.exit ?_
    | with_reducible refine WQ.thenR ?_
    | with_reducible refine WQ.thenX ?_
    | with_reducible refine WQ.blkN ?_
    | with_reducible refine WQ.blkR ?_
    | ((with_reducible refine WQ.blkX ?_ ?_); focus rfl)
    | ((with_reducible refine WQ.blkY ?_ ?_); focus rfl)
    | refine WC.condT rfl ?_
    | refine WC.condF rfl ?_
    | refine WC.condTh rfl gdQ ?_
    | refine WC.condFh rfl gdQ ?_
    | (refine WC.cond rfl (fun hc => ?_) (fun hc => ?_) <;> (try first | (with_reducible replace hc := of_decide_eq_true hc) | (with_reducible replace hc := of_decide_eq_false hc) | (with_reducible replace hc := eqT hc) | (with_reducible replace hc := eqF hc) | (with_reducible replace hc := neT hc) | (with_reducible replace hc := neF hc) | (with_reducible replace hc := noT hc) | (with_reducible replace hc := noF hc)) <;> (try (exfalso; omega))))
  exact WQ.bodyN (Reads.none rfl) fun w' hw' => updEnd (q := beat nonce now p) hp hw' outQ (by assumption)
theorem good1_w : Upd 43 [] heard (.vw none 0 1 []) (.vw none 0 1 []) := by
  intro w b m c i l p hp hok hS
  have hpp : PartAt (flat Pth.cs l) (i * 14) p.cs := PartAt.flat cs_len hp
  refine enterM _ _ hS Try.func43 rfl (by simp only [Try.ntmps43, List.length_cons, List.length_nil, Nat.reduceAdd, Nat.reduceSub]; rfl) ?_
  repeat' (first
    | with_reducible refine WL.nil ?_
    | with_reducible refine WQ.thenN ?_
    | with_reducible refine WQ.code ?_
    | with_reducible refine WC.seq ?_
    | with_reducible refine WC.region ?_
    | ((with_reducible refine WL.isN_move ?_); first | refine WL.yld rfl (Yld.pure rfl nrmQ) ?_)
    | ((with_reducible refine WL.isN_bin ?_); first | refine WL.yld rfl (Yld.pure rfl nrmQ) ?_ | refine WL.yld rfl (Yld.rem rfl rfl rfl rfl (by omega) (by omega)) ?_ | refine WL.yld rfl (Yld.quo rfl rfl rfl rfl (by omega) (by omega) nrmQ) ?_ | refine WL.yld rfl (Yld.eqlB rfl rfl rfl rfl) ?_ | refine WL.yld rfl (Yld.neqB rfl rfl rfl rfl) ?_ | refine WL.yld rfl (Yld.eqlA 4 rfl rfl rfl (by kernel_rfl) (by kernel_rfl) rfl rfl) ?_ | refine WL.yld rfl (Yld.neqA 4 rfl rfl rfl (by kernel_rfl) (by kernel_rfl) rfl rfl) ?_ | refine WL.yld rfl (Yld.quoT rfl rfl rfl rfl (by omega) nrmQ) ?_)
    | ((with_reducible refine WL.isN_nil ?_); first | refine WL.yld rfl (Yld.pure rfl nrmQ) ?_)
    | ((with_reducible refine WL.isN_load ?_); first | refine WL.yld rfl (Yld.loadAgg rfl rfl rfl rfl rfl (AggAt.rowPP 0 3 rfl hpp rfl)) ?_ | refine WL.yld rfl (Yld.load rfl rfl rfl rfl cellQ) ?_ | refine WL.yld rfl (Yld.loadAgg rfl rfl rfl rfl rfl aggQ) ?_)
    | ((with_reducible refine WL.isN_faddr ?_); first | refine WL.yld rfl (Yld.fieldAddr rfl rfl rfl rfl rfl rfl rfl) ?_)
    | ((with_reducible refine WL.isN_call ?_); first | refine WL.step rfl (StepTo.callV (us := [.agg #[.int .i64 p.srtt, .int .i64 p.var, .int .i64 p.rto, .int .i64 p.backs, .bool p.known]]) rfl rfl rfl rfl rfl (by kernel_rfl) (fun w _ => good_q p.srtt p.var p.rto p.backs p.known w) ?_))
    | ((with_reducible refine WL.isN_store ?_); first | refine WL.step rfl (StepTo.sRW 0 rfl rfl rfl rfl rfl rfl rfl rfl (by assumption) rfl overQ (fun _ _ _ => ⟨_, setQ, ?_⟩)) | refine WL.step rfl (StepTo.sRWA 0 rfl rfl rfl rfl rfl rfl rfl rfl rfl (by assumption) rfl overQ (fun _ _ _ => ⟨_, setQ, ?_⟩)) | refine WL.step rfl (StepTo.st1 rfl rfl rfl rfl rfl rfl ?_) | refine WL.step rfl (StepTo.stA rfl rfl rfl rfl rfl rfl rfl ?_) | refine WL.step rfl (StepTo.stR rfl rfl rfl rfl rfl rfl rfl ?_))
    | with_reducible refine WC.block ?_
    | with_reducible refine WC.scope ?_
    | with_reducible refine WC.label ?_
    | with_reducible refine WQ.ngN ?_
    | with_reducible refine WQ.ngR ?_
    | with_reducible refine WQ.ngX ?_
    | with_reducible refine WC.skip ?_
    | with_reducible refine WC.ret ?_
    | with_reducible refine WC.exit ?_
    | with_reducible refine WQ.thenR ?_
    | with_reducible refine WQ.thenX ?_
    | with_reducible refine WQ.blkN ?_
    | with_reducible refine WQ.blkR ?_
    | ((with_reducible refine WQ.blkX ?_ ?_); focus rfl)
    | ((with_reducible refine WQ.blkY ?_ ?_); focus rfl)
    | refine WC.condT rfl ?_
    | refine WC.condF rfl ?_
    | refine WC.condTh rfl gdQ ?_
    | refine WC.condFh rfl gdQ ?_
    | (refine WC.cond rfl (fun hc => ?_) (fun hc => ?_) <;> (try first | (with_reducible replace hc := of_decide_eq_true hc) | (with_reducible replace hc := of_decide_eq_false hc) | (with_reducible replace hc := eqT hc) | (with_reducible replace hc := eqF hc) | (with_reducible replace hc := neT hc) | (with_reducible replace hc := neF hc) | (with_reducible replace hc := noT hc) | (with_reducible replace hc := noF hc)) <;> (try (exfalso; omega))))
  · have h3 : p.state = 3 := by assumption
    exact WQ.bodyN (Reads.none rfl) fun w' hw' => updEnd (q := heard p) hp hw' outQ (by simp only [heard, Pth.Pth.cs, if_pos h3]; assumption)
  · have h3 : ¬ p.state = 3 := by assumption
    exact WQ.bodyN (Reads.none rfl) fun w' hw' => updEnd (q := heard p) hp hw' outQ (by simp only [heard, Pth.Pth.cs, if_neg h3]; assumption)
theorem ack1_w (now : Int) (bo : Nat) : Upd 45 [.pointer (some ⟨bo, 0, none⟩)] (answered now) (.vw (some ⟨bo, 0, none⟩) 1 1 [.int .i64 now]) (.vw none 0 1 []) := by
  intro w b m c i l p hp hok hS
  have hpp : PartAt (flat Pth.cs l) (i * 14) p.cs := PartAt.flat cs_len hp
  have hsam : ∀ w : World, Calls Try.prog 46 #[.agg #[.int .i64 p.srtt, .int .i64 p.var, .int .i64 p.rto, .int .i64 p.backs, .bool p.known], .int .i64 (IntKind.i64.wrap (now - p.beaten))] w fun e w' =>
      e = .returned (.agg #[.int .i64 (smS p.known p.srtt (w64 (now - p.beaten))), .int .i64 (smV p.known p.srtt p.var (w64 (now - p.beaten))), .int .i64 (wt (smS p.known p.srtt (w64 (now - p.beaten))) (smV p.known p.srtt p.var (w64 (now - p.beaten)))), .int .i64 0, .bool true]) ∧ Below w.heap.size w w' := by
    intro w
    rw [show IntKind.i64.wrap (now - p.beaten) = w64 (now - p.beaten) from IntKind.wrap_i64 _]
    exact sample_q p.srtt p.var p.rto p.backs (w64 (now - p.beaten)) p.known w
  refine enterM _ _ hS Try.func45 rfl (by simp only [Try.ntmps45, List.length_cons, List.length_nil, Nat.reduceAdd, Nat.reduceSub]; rfl) ?_
  repeat' (first
    | with_reducible refine WL.nil ?_
    | with_reducible refine WQ.thenN ?_
    | with_reducible refine WQ.code ?_
    | with_reducible refine WC.seq ?_
    | with_reducible refine WC.region ?_
    | ((with_reducible refine WL.isN_move ?_); first | refine WL.yld rfl (Yld.pure rfl nrmQ) ?_)
    | ((with_reducible refine WL.isN_bin ?_); first | refine WL.yld rfl (Yld.pure rfl nrmQ) ?_ | refine WL.yld rfl (Yld.rem rfl rfl rfl rfl (by omega) (by omega)) ?_ | refine WL.yld rfl (Yld.quo rfl rfl rfl rfl (by omega) (by omega) nrmQ) ?_ | refine WL.yld rfl (Yld.eqlB rfl rfl rfl rfl) ?_ | refine WL.yld rfl (Yld.neqB rfl rfl rfl rfl) ?_ | refine WL.yld rfl (Yld.eqlA 4 rfl rfl rfl (by kernel_rfl) (by kernel_rfl) rfl rfl) ?_ | refine WL.yld rfl (Yld.neqA 4 rfl rfl rfl (by kernel_rfl) (by kernel_rfl) rfl rfl) ?_ | refine WL.yld rfl (Yld.quoT rfl rfl rfl rfl (by omega) nrmQ) ?_)
    | ((with_reducible refine WL.isN_nil ?_); first | refine WL.yld rfl (Yld.pure rfl nrmQ) ?_)
    | ((with_reducible refine WL.isN_load ?_); first | refine WL.yld rfl (Yld.load rfl rfl rfl rfl cellQ) ?_ | refine WL.yld rfl (Yld.loadAgg rfl rfl rfl rfl rfl aggQ) ?_)
    | ((with_reducible refine WL.isN_faddr ?_); first | refine WL.yld rfl (Yld.fieldAddr rfl rfl rfl rfl rfl rfl rfl) ?_)
    | ((with_reducible refine WL.isN_store ?_); first | refine WL.step rfl (StepTo.st1 rfl rfl rfl rfl rfl rfl ?_) | refine WL.step rfl (StepTo.stA rfl rfl rfl rfl rfl rfl rfl ?_) | refine WL.step rfl (StepTo.stR rfl rfl rfl rfl rfl rfl rfl ?_))
    | with_reducible refine WC.block ?_
    | with_reducible refine WC.scope ?_
    | with_reducible refine WC.label ?_
    | with_reducible refine WQ.ngN ?_
    | with_reducible refine WQ.ngR ?_
    | with_reducible refine WQ.ngX ?_
    | with_reducible refine WC.skip ?_
    | with_reducible refine WC.ret ?_
    | with_reducible refine WC.exit ?_
    | with_reducible refine WQ.thenR ?_
    | with_reducible refine WQ.thenX ?_
    | with_reducible refine WQ.blkN ?_
    | with_reducible refine WQ.blkR ?_
    | ((with_reducible refine WQ.blkX ?_ ?_); focus rfl)
    | ((with_reducible refine WQ.blkY ?_ ?_); focus rfl)
    | refine WC.condT rfl ?_
    | refine WC.condF rfl ?_
    | refine WC.condTh rfl gdQ ?_
    | refine WC.condFh rfl gdQ ?_
    | (refine WC.cond rfl (fun hc => ?_) (fun hc => ?_) <;> (try first | (with_reducible replace hc := of_decide_eq_true hc) | (with_reducible replace hc := of_decide_eq_false hc) | (with_reducible replace hc := eqT hc) | (with_reducible replace hc := eqF hc) | (with_reducible replace hc := neT hc) | (with_reducible replace hc := neF hc) | (with_reducible replace hc := noT hc) | (with_reducible replace hc := noF hc)) <;> (try (exfalso; omega))))
  refine WC.cut (fun τ H => ∃ ys, PartAt ys (i * 14) [.string p.addr, .int .i64 p.state, .int .i64 p.errors, .int .i64 (smS p.known p.srtt (w64 (now - p.beaten))), .int .i64 (smV p.known p.srtt p.var (w64 (now - p.beaten))), .int .i64 (wt (smS p.known p.srtt (w64 (now - p.beaten))) (smV p.known p.srtt p.var (w64 (now - p.beaten)))), .int .i64 0, .bool true, .int .i64 p.cwnd, .int .i64 p.ssth, .int .i64 p.part, .int .u32 p.nonce, .int .i64 p.beaten, .int .i64 0] ∧ Out (flat Pth.cs l) ys (i * 14) 14 ∧ τ = [(0, .pointer (some ⟨b, 0 + i * 14, none⟩))] ∧ H = [.row (some ⟨b, 0, none⟩) m c 48 14 ys, .vw none 0 1 []]) ?_ ?_
  refine WC.anyI [1] (by kernel_rfl) ?_
  refine WA.take (idx := [1]) 0 rfl (by kernel_rfl) (by kernel_rfl) (by kernel_rfl) rfl ⟨by decide, rfl⟩ (Yld.pure rfl nrmQ) ?_
  refine WA.take (idx := [1]) 1 rfl (by kernel_rfl) (by kernel_rfl) (by kernel_rfl) rfl ⟨by decide, rfl⟩ (Yld.pure rfl nrmQ) ?_
  refine WA.take (idx := [1]) 2 rfl (by kernel_rfl) (by kernel_rfl) (by kernel_rfl) rfl ⟨by decide, rfl⟩ (Yld.pure rfl nrmQ) ?_
  refine WA.take (idx := [1]) 3 rfl (by kernel_rfl) (by kernel_rfl) (by kernel_rfl) rfl ⟨by decide, rfl⟩ (Yld.pure rfl nrmQ) ?_
  refine WA.take (idx := [1]) 4 rfl (by kernel_rfl) (by kernel_rfl) (by kernel_rfl) rfl ⟨by decide, rfl⟩ (Yld.fieldAddr rfl rfl rfl rfl rfl rfl rfl) ?_
  refine WA.take (idx := [1]) 6 rfl (by kernel_rfl) (by kernel_rfl) (by kernel_rfl) rfl ⟨by decide, rfl⟩ (by first | exact Yld.load rfl rfl rfl rfl (CellsAt.at0 (CellsAt.vwAll 0 rfl)) | exact Yld.loadAgg rfl rfl rfl rfl rfl (AggAt.rowPP 0 3 rfl hpp rfl) | exact Yld.load rfl rfl rfl rfl cellQ | exact Yld.loadAgg rfl rfl rfl rfl rfl aggQ) ?_
  refine WA.take (idx := [1]) 7 rfl (by kernel_rfl) (by kernel_rfl) (by kernel_rfl) rfl ⟨by decide, rfl⟩ (Yld.pure rfl nrmQ) ?_
  refine WA.take (idx := [1]) 8 rfl (by kernel_rfl) (by kernel_rfl) (by kernel_rfl) rfl ⟨by decide, rfl⟩ (Yld.pure rfl nrmQ) ?_
  refine WA.take (idx := [1]) 9 rfl (by kernel_rfl) (by kernel_rfl) (by kernel_rfl) rfl ⟨by decide, rfl⟩ (Yld.fieldAddr rfl rfl rfl rfl rfl rfl rfl) ?_
  refine WA.two 5 10 (by kernel_rfl) rfl rfl rfl rfl ?_ ?_
  · refine StepTo.yld (by first | exact Yld.load rfl rfl rfl rfl (CellsAt.at0 (CellsAt.vwAll 0 rfl)) | exact Yld.loadAgg rfl rfl rfl rfl rfl (AggAt.rowPP 0 3 rfl hpp rfl) | exact Yld.load rfl rfl rfl rfl cellQ | exact Yld.loadAgg rfl rfl rfl rfl rfl aggQ) rfl ⟨⟨[1], by decide, rfl⟩, ?_⟩
    refine WA.one 10 (by kernel_rfl) rfl rfl ?_
    refine StepTo.yld (by first | exact Yld.load rfl rfl rfl rfl (CellsAt.at0 (CellsAt.vwAll 0 rfl)) | exact Yld.loadAgg rfl rfl rfl rfl rfl (AggAt.rowPP 0 3 rfl hpp rfl) | exact Yld.load rfl rfl rfl rfl cellQ | exact Yld.loadAgg rfl rfl rfl rfl rfl aggQ) rfl ⟨⟨[1], by decide, rfl⟩, ?_⟩
    refine WA.take (idx := [1]) 11 rfl (by kernel_rfl) (by kernel_rfl) (by kernel_rfl) rfl ⟨by decide, rfl⟩ (by first | exact Yld.pure rfl nrmQ | exact Yld.rem rfl rfl rfl rfl (by omega) (by omega) | exact Yld.quo rfl rfl rfl rfl (by omega) (by omega) nrmQ | exact Yld.eqlB rfl rfl rfl rfl | exact Yld.neqB rfl rfl rfl rfl | exact Yld.eqlA 4 rfl rfl rfl (by kernel_rfl) (by kernel_rfl) rfl rfl | exact Yld.neqA 4 rfl rfl rfl (by kernel_rfl) (by kernel_rfl) rfl rfl | exact Yld.quoT rfl rfl rfl rfl (by omega) nrmQ) ?_
    refine WA.one 12 (by kernel_rfl) rfl rfl ?_
    refine StepTo.callV (us := [.agg #[.int .i64 p.srtt, .int .i64 p.var, .int .i64 p.rto, .int .i64 p.backs, .bool p.known], .int .i64 (IntKind.i64.wrap (now - p.beaten))]) rfl rfl rfl rfl rfl (by kernel_rfl) (fun w _ => hsam w) ⟨⟨[1], by decide, rfl⟩, ?_⟩
    refine WA.take (idx := [1]) 13 rfl (by kernel_rfl) (by kernel_rfl) (by kernel_rfl) rfl ⟨by decide, rfl⟩ (Yld.pure rfl nrmQ) ?_
    refine WA.take (idx := [1]) 14 rfl (by kernel_rfl) (by kernel_rfl) (by kernel_rfl) rfl ⟨by decide, rfl⟩ (Yld.fieldAddr rfl rfl rfl rfl rfl rfl rfl) ?_
    refine WA.one 15 (by kernel_rfl) rfl rfl ?_
    first | refine StepTo.sRW 0 rfl rfl rfl rfl rfl rfl rfl rfl (by assumption) rfl overQ (fun _ _ _ => ⟨_, setQ, ⟨[1], by decide, rfl⟩, ?_⟩) | refine StepTo.sRWA 0 rfl rfl rfl rfl rfl rfl rfl rfl rfl (by assumption) rfl overQ (fun _ _ _ => ⟨_, setQ, ⟨[1], by decide, rfl⟩, ?_⟩)
    refine WA.take (idx := [1]) 16 rfl (by kernel_rfl) (by kernel_rfl) (by kernel_rfl) rfl ⟨by decide, rfl⟩ (Yld.pure rfl nrmQ) ?_
    refine WA.take (idx := [1]) 17 rfl (by kernel_rfl) (by kernel_rfl) (by kernel_rfl) rfl ⟨by decide, rfl⟩ (Yld.fieldAddr rfl rfl rfl rfl rfl rfl rfl) ?_
    refine WA.one 18 (by kernel_rfl) rfl rfl ?_
    first | refine StepTo.sRW 0 rfl rfl rfl rfl rfl rfl rfl rfl (by assumption) rfl overQ (fun _ _ _ => ⟨_, setQ, ⟨[1], by decide, rfl⟩, ?_⟩) | refine StepTo.sRWA 0 rfl rfl rfl rfl rfl rfl rfl rfl rfl (by assumption) rfl overQ (fun _ _ _ => ⟨_, setQ, ⟨[1], by decide, rfl⟩, ?_⟩)
    refine WA.done (by kernel_rfl) ?_
    exact WQ.thenN (WQ.met _ _ [0, 2] (by repeat (first | exact Sub.nil | refine Sub.cons rfl ?_ | refine Sub.consE rfl (int_eq (by omega)) ?_)) ⟨by decide, rfl⟩ ⟨_, by assumption, outQ, rfl, rfl⟩)
  · refine StepTo.yld (by first | exact Yld.load rfl rfl rfl rfl (CellsAt.at0 (CellsAt.vwAll 0 rfl)) | exact Yld.loadAgg rfl rfl rfl rfl rfl (AggAt.rowPP 0 3 rfl hpp rfl) | exact Yld.load rfl rfl rfl rfl cellQ | exact Yld.loadAgg rfl rfl rfl rfl rfl aggQ) rfl ⟨⟨[1], by decide, rfl⟩, ?_⟩
    refine WA.take (idx := [1]) 11 rfl (by kernel_rfl) (by kernel_rfl) (by kernel_rfl) rfl ⟨by decide, rfl⟩ (by first | exact Yld.pure rfl nrmQ | exact Yld.rem rfl rfl rfl rfl (by omega) (by omega) | exact Yld.quo rfl rfl rfl rfl (by omega) (by omega) nrmQ | exact Yld.eqlB rfl rfl rfl rfl | exact Yld.neqB rfl rfl rfl rfl | exact Yld.eqlA 4 rfl rfl rfl (by kernel_rfl) (by kernel_rfl) rfl rfl | exact Yld.neqA 4 rfl rfl rfl (by kernel_rfl) (by kernel_rfl) rfl rfl | exact Yld.quoT rfl rfl rfl rfl (by omega) nrmQ) ?_
    refine WA.one 5 (by kernel_rfl) rfl rfl ?_
    refine StepTo.yld (by first | exact Yld.load rfl rfl rfl rfl (CellsAt.at0 (CellsAt.vwAll 0 rfl)) | exact Yld.loadAgg rfl rfl rfl rfl rfl (AggAt.rowPP 0 3 rfl hpp rfl) | exact Yld.load rfl rfl rfl rfl cellQ | exact Yld.loadAgg rfl rfl rfl rfl rfl aggQ) rfl ⟨⟨[1], by decide, rfl⟩, ?_⟩
    refine WA.one 12 (by kernel_rfl) rfl rfl ?_
    refine StepTo.callV (us := [.agg #[.int .i64 p.srtt, .int .i64 p.var, .int .i64 p.rto, .int .i64 p.backs, .bool p.known], .int .i64 (IntKind.i64.wrap (now - p.beaten))]) rfl rfl rfl rfl rfl (by kernel_rfl) (fun w _ => hsam w) ⟨⟨[1], by decide, rfl⟩, ?_⟩
    refine WA.take (idx := [1]) 13 rfl (by kernel_rfl) (by kernel_rfl) (by kernel_rfl) rfl ⟨by decide, rfl⟩ (Yld.pure rfl nrmQ) ?_
    refine WA.take (idx := [1]) 14 rfl (by kernel_rfl) (by kernel_rfl) (by kernel_rfl) rfl ⟨by decide, rfl⟩ (Yld.fieldAddr rfl rfl rfl rfl rfl rfl rfl) ?_
    refine WA.one 15 (by kernel_rfl) rfl rfl ?_
    first | refine StepTo.sRW 0 rfl rfl rfl rfl rfl rfl rfl rfl (by assumption) rfl overQ (fun _ _ _ => ⟨_, setQ, ⟨[1], by decide, rfl⟩, ?_⟩) | refine StepTo.sRWA 0 rfl rfl rfl rfl rfl rfl rfl rfl rfl (by assumption) rfl overQ (fun _ _ _ => ⟨_, setQ, ⟨[1], by decide, rfl⟩, ?_⟩)
    refine WA.take (idx := [1]) 16 rfl (by kernel_rfl) (by kernel_rfl) (by kernel_rfl) rfl ⟨by decide, rfl⟩ (Yld.pure rfl nrmQ) ?_
    refine WA.take (idx := [1]) 17 rfl (by kernel_rfl) (by kernel_rfl) (by kernel_rfl) rfl ⟨by decide, rfl⟩ (Yld.fieldAddr rfl rfl rfl rfl rfl rfl rfl) ?_
    refine WA.one 18 (by kernel_rfl) rfl rfl ?_
    first | refine StepTo.sRW 0 rfl rfl rfl rfl rfl rfl rfl rfl (by assumption) rfl overQ (fun _ _ _ => ⟨_, setQ, ⟨[1], by decide, rfl⟩, ?_⟩) | refine StepTo.sRWA 0 rfl rfl rfl rfl rfl rfl rfl rfl rfl (by assumption) rfl overQ (fun _ _ _ => ⟨_, setQ, ⟨[1], by decide, rfl⟩, ?_⟩)
    refine WA.done (by kernel_rfl) ?_
    exact WQ.thenN (WQ.met _ _ [0, 2] (by repeat (first | exact Sub.nil | refine Sub.cons rfl ?_ | refine Sub.consE rfl (int_eq (by omega)) ?_)) ⟨by decide, rfl⟩ ⟨_, by assumption, outQ, rfl, rfl⟩)
  rintro τ H ⟨ys, hP, hO, rfl, rfl⟩
  repeat' (first
    | with_reducible refine WL.nil ?_
    | with_reducible refine WQ.thenN ?_
    | with_reducible refine WQ.code ?_
    | with_reducible refine WC.seq ?_
    | with_reducible refine WC.region ?_
    | ((with_reducible refine WL.isN_move ?_); first | refine WL.yld rfl (Yld.pure rfl nrmQ) ?_)
    | ((with_reducible refine WL.isN_bin ?_); first | refine WL.yld rfl (Yld.pure rfl nrmQ) ?_ | refine WL.yld rfl (Yld.rem rfl rfl rfl rfl (by omega) (by omega)) ?_ | refine WL.yld rfl (Yld.quo rfl rfl rfl rfl (by omega) (by omega) nrmQ) ?_ | refine WL.yld rfl (Yld.eqlB rfl rfl rfl rfl) ?_ | refine WL.yld rfl (Yld.neqB rfl rfl rfl rfl) ?_ | refine WL.yld rfl (Yld.eqlA 4 rfl rfl rfl (by kernel_rfl) (by kernel_rfl) rfl rfl) ?_ | refine WL.yld rfl (Yld.neqA 4 rfl rfl rfl (by kernel_rfl) (by kernel_rfl) rfl rfl) ?_ | refine WL.yld rfl (Yld.quoT rfl rfl rfl rfl (by omega) nrmQ) ?_)
    | ((with_reducible refine WL.isN_nil ?_); first | refine WL.yld rfl (Yld.pure rfl nrmQ) ?_)
    | ((with_reducible refine WL.isN_load ?_); first | refine WL.yld rfl (Yld.load rfl rfl rfl rfl cellQ) ?_ | refine WL.yld rfl (Yld.loadAgg rfl rfl rfl rfl rfl aggQ) ?_)
    | ((with_reducible refine WL.isN_faddr ?_); first | refine WL.yld rfl (Yld.fieldAddr rfl rfl rfl rfl rfl rfl rfl) ?_)
    | ((with_reducible refine WL.isN_store ?_); first | refine WL.step rfl (StepTo.sRW 0 rfl rfl rfl rfl rfl rfl rfl rfl (by assumption) rfl overQ (fun _ _ _ => ⟨_, setQ, ?_⟩)) | refine WL.step rfl (StepTo.st1 rfl rfl rfl rfl rfl rfl ?_) | refine WL.step rfl (StepTo.stA rfl rfl rfl rfl rfl rfl rfl ?_) | refine WL.step rfl (StepTo.stR rfl rfl rfl rfl rfl rfl rfl ?_))
    | with_reducible refine WC.block ?_
    | with_reducible refine WC.scope ?_
    | with_reducible refine WC.label ?_
    | with_reducible refine WQ.ngN ?_
    | with_reducible refine WQ.ngR ?_
    | with_reducible refine WQ.ngX ?_
    | with_reducible refine WC.skip ?_
    | with_reducible refine WC.ret ?_
    | with_reducible refine WC.exit ?_
    | with_reducible refine WQ.thenR ?_
    | with_reducible refine WQ.thenX ?_
    | with_reducible refine WQ.blkN ?_
    | with_reducible refine WQ.blkR ?_
    | ((with_reducible refine WQ.blkX ?_ ?_); focus rfl)
    | ((with_reducible refine WQ.blkY ?_ ?_); focus rfl)
    | refine WC.condT rfl ?_
    | refine WC.condF rfl ?_
    | refine WC.condTh rfl gdQ ?_
    | refine WC.condFh rfl gdQ ?_
    | (refine WC.cond rfl (fun hc => ?_) (fun hc => ?_) <;> (try first | (with_reducible replace hc := of_decide_eq_true hc) | (with_reducible replace hc := of_decide_eq_false hc) | (with_reducible replace hc := eqT hc) | (with_reducible replace hc := eqF hc) | (with_reducible replace hc := neT hc) | (with_reducible replace hc := neF hc) | (with_reducible replace hc := noT hc) | (with_reducible replace hc := noF hc)) <;> (try (exfalso; omega))))
  · have h3 : p.state = 1 := by assumption
    exact WQ.bodyN (Reads.none rfl) fun w' hw' => updEnd (q := answered now p) hp hw' outQ (by simp only [answered, Pth.Pth.cs, if_pos h3]; assumption)
  · have h3 : ¬ p.state = 1 := by assumption
    exact WQ.bodyN (Reads.none rfl) fun w' hw' => updEnd (q := answered now p) hp hw' outQ (by simp only [answered, Pth.Pth.cs, if_neg h3]; assumption)
theorem fail1_w : Upd 40 [] failed (.vw none 0 1 []) (.vw none 0 1 []) := by
  intro w b m c i l p hp hok hS
  have hpp : PartAt (flat Pth.cs l) (i * 14) p.cs := PartAt.flat cs_len hp
  refine enterM _ _ hS Try.func40 rfl (by simp only [Try.ntmps40, List.length_cons, List.length_nil, Nat.reduceAdd, Nat.reduceSub]; rfl) ?_
  repeat' (first
    | with_reducible refine WL.nil ?_
    | with_reducible refine WQ.thenN ?_
    | with_reducible refine WQ.code ?_
    | with_reducible refine WC.seq ?_
    | with_reducible refine WC.region ?_
    | ((with_reducible refine WL.isN_move ?_); first | refine WL.yld rfl (Yld.pure rfl nrmQ) ?_)
    | ((with_reducible refine WL.isN_bin ?_); first | refine WL.yld rfl (Yld.pure rfl nW64) ?_ | refine WL.yld rfl (Yld.pure rfl nrmQ) ?_ | refine WL.yld rfl (Yld.rem rfl rfl rfl rfl (by omega) (by omega)) ?_ | refine WL.yld rfl (Yld.quo rfl rfl rfl rfl (by omega) (by omega) nrmQ) ?_ | refine WL.yld rfl (Yld.eqlB rfl rfl rfl rfl) ?_ | refine WL.yld rfl (Yld.neqB rfl rfl rfl rfl) ?_ | refine WL.yld rfl (Yld.eqlA 4 rfl rfl rfl (by kernel_rfl) (by kernel_rfl) rfl rfl) ?_ | refine WL.yld rfl (Yld.neqA 4 rfl rfl rfl (by kernel_rfl) (by kernel_rfl) rfl rfl) ?_ | refine WL.yld rfl (Yld.quoT rfl rfl rfl rfl (by omega) nrmQ) ?_)
    | ((with_reducible refine WL.isN_nil ?_); first | refine WL.yld rfl (Yld.pure rfl nrmQ) ?_)
    | ((with_reducible refine WL.isN_load ?_); first | refine WL.yld rfl (Yld.load rfl rfl rfl rfl cellQ) ?_ | refine WL.yld rfl (Yld.loadAgg rfl rfl rfl rfl rfl aggQ) ?_)
    | ((with_reducible refine WL.isN_faddr ?_); first | refine WL.yld rfl (Yld.fieldAddr rfl rfl rfl rfl rfl rfl rfl) ?_)
    | ((with_reducible refine WL.isN_pick ?_); first | refine WL.yld rfl (Yld.pickT rfl rfl rfl) ?_ | refine WL.yld rfl (Yld.pickF rfl rfl rfl) ?_ | refine WL.yld rfl (Yld.pickTh rfl rfl gdQ rfl) ?_ | refine WL.yld rfl (Yld.pickFh rfl rfl gdQ rfl) ?_ | refine WL.yld rfl (Yld.pickB rfl rfl rfl rfl) ?_)
    | ((with_reducible refine WL.isN_store ?_); first | refine WL.step rfl (StepTo.sRW 0 rfl rfl rfl rfl rfl rfl rfl rfl (by assumption) rfl overQ (fun _ _ _ => ⟨_, setQ, ?_⟩)) | refine WL.step rfl (StepTo.st1 rfl rfl rfl rfl rfl rfl ?_) | refine WL.step rfl (StepTo.stA rfl rfl rfl rfl rfl rfl rfl ?_) | refine WL.step rfl (StepTo.stR rfl rfl rfl rfl rfl rfl rfl ?_))
    | with_reducible refine WC.block ?_
    | with_reducible refine WC.scope ?_
    | with_reducible refine WC.label ?_
    | with_reducible refine WQ.ngN ?_
    | with_reducible refine WQ.ngR ?_
    | with_reducible refine WQ.ngX ?_
    | with_reducible refine WC.skip ?_
    | with_reducible refine WC.ret ?_
    | with_reducible refine WC.exit ?_
    | with_reducible refine WQ.thenR ?_
    | with_reducible refine WQ.thenX ?_
    | with_reducible refine WQ.blkN ?_
    | with_reducible refine WQ.blkR ?_
    | ((with_reducible refine WQ.blkX ?_ ?_); focus rfl)
    | ((with_reducible refine WQ.blkY ?_ ?_); focus rfl)
    | refine WC.condT rfl ?_
    | refine WC.condF rfl ?_
    | refine WC.condTh rfl gdQ ?_
    | refine WC.condFh rfl gdQ ?_
    | (refine WC.cond rfl (fun hc => ?_) (fun hc => ?_) <;> (try first | (with_reducible replace hc := of_decide_eq_true hc) | (with_reducible replace hc := of_decide_eq_false hc) | (with_reducible replace hc := eqT hc) | (with_reducible replace hc := eqF hc) | (with_reducible replace hc := neT hc) | (with_reducible replace hc := neF hc) | (with_reducible replace hc := noT hc) | (with_reducible replace hc := noF hc)) <;> (try (exfalso; omega))))
  rename_i ys hP hO
  refine WC.cut (fun τ H => ∃ ys, PartAt ys (i * 14) [.string p.addr, .int .i64 p.state, .int .i64 (w64 (p.errors + 1)), .int .i64 p.srtt, .int .i64 p.var, .int .i64 (bkR p.rto), .int .i64 (min p.backs 999 + 1), .bool p.known, .int .i64 1500, .int .i64 (half p.cwnd), .int .i64 0, .int .u32 p.nonce, .int .i64 p.beaten, .int .i64 p.sent] ∧ Out (flat Pth.cs l) ys (i * 14) 14 ∧ τ = [(0, .pointer (some ⟨b, 0 + i * 14, none⟩))] ∧ H = [.row (some ⟨b, 0, none⟩) m c 48 14 ys, .vw none 0 1 []]) ?_ ?_
  refine WC.anyI [1] (by kernel_rfl) ?_
  refine WA.take (idx := [1]) 0 rfl (by kernel_rfl) (by kernel_rfl) (by kernel_rfl) rfl ⟨by decide, rfl⟩ (Yld.pure rfl nrmQ) ?_
  refine WA.take (idx := [1]) 1 rfl (by kernel_rfl) (by kernel_rfl) (by kernel_rfl) rfl ⟨by decide, rfl⟩ (Yld.pure rfl nrmQ) ?_
  refine WA.take (idx := [1]) 2 rfl (by kernel_rfl) (by kernel_rfl) (by kernel_rfl) rfl ⟨by decide, rfl⟩ (Yld.pure rfl nrmQ) ?_
  refine WA.take (idx := [1]) 3 rfl (by kernel_rfl) (by kernel_rfl) (by kernel_rfl) rfl ⟨by decide, rfl⟩ (Yld.pure rfl nrmQ) ?_
  refine WA.take (idx := [1]) 4 rfl (by kernel_rfl) (by kernel_rfl) (by kernel_rfl) rfl ⟨by decide, rfl⟩ (Yld.fieldAddr rfl rfl rfl rfl rfl rfl rfl) ?_
  refine WA.take (idx := [1]) 7 rfl (by kernel_rfl) (by kernel_rfl) (by kernel_rfl) rfl ⟨by decide, rfl⟩ (Yld.pure rfl nrmQ) ?_
  refine WA.take (idx := [1]) 8 rfl (by kernel_rfl) (by kernel_rfl) (by kernel_rfl) rfl ⟨by decide, rfl⟩ (Yld.pure rfl nrmQ) ?_
  refine WA.take (idx := [1]) 9 rfl (by kernel_rfl) (by kernel_rfl) (by kernel_rfl) rfl ⟨by decide, rfl⟩ (Yld.fieldAddr rfl rfl rfl rfl rfl rfl rfl) ?_
  refine WA.two 5 10 (by kernel_rfl) rfl rfl rfl rfl ?_ ?_
  · refine StepTo.yld (by first | exact Yld.loadAgg rfl rfl rfl rfl rfl (AggAt.rowPP 0 3 rfl (by assumption) rfl) | exact Yld.loadAgg rfl rfl rfl rfl rfl (AggAt.rowPP 0 8 rfl (by assumption) rfl) | exact Yld.load rfl rfl rfl rfl cellQ | exact Yld.loadAgg rfl rfl rfl rfl rfl aggQ) rfl ⟨⟨[1], by decide, rfl⟩, ?_⟩
    refine WA.two 6 10 (by kernel_rfl) rfl rfl rfl rfl ?_ ?_
    · refine StepTo.callV (us := [.agg #[.int .i64 p.srtt, .int .i64 p.var, .int .i64 p.rto, .int .i64 p.backs, .bool p.known]]) rfl rfl rfl rfl rfl (by kernel_rfl) (fun w _ => back_q p.srtt p.var p.rto p.backs p.known w hok.backs.2 hok.backs.1) ⟨⟨[1], by decide, rfl⟩, ?_⟩
      refine WA.one 10 (by kernel_rfl) rfl rfl ?_
      refine StepTo.yld (by first | exact Yld.loadAgg rfl rfl rfl rfl rfl (AggAt.rowPP 0 3 rfl (by assumption) rfl) | exact Yld.loadAgg rfl rfl rfl rfl rfl (AggAt.rowPP 0 8 rfl (by assumption) rfl) | exact Yld.load rfl rfl rfl rfl cellQ | exact Yld.loadAgg rfl rfl rfl rfl rfl aggQ) rfl ⟨⟨[1], by decide, rfl⟩, ?_⟩
      refine WA.one 11 (by kernel_rfl) rfl rfl ?_
      refine StepTo.callV (us := [.agg #[.int .i64 p.cwnd, .int .i64 p.ssth, .int .i64 p.part]]) rfl rfl rfl rfl rfl (by kernel_rfl) (fun w _ => timeout_q p.cwnd p.ssth p.part w) ⟨⟨[1], by decide, rfl⟩, ?_⟩
      refine WA.take (idx := [1]) 12 rfl (by kernel_rfl) (by kernel_rfl) (by kernel_rfl) rfl ⟨by decide, rfl⟩ (Yld.pure rfl nrmQ) ?_
      refine WA.take (idx := [1]) 13 rfl (by kernel_rfl) (by kernel_rfl) (by kernel_rfl) rfl ⟨by decide, rfl⟩ (Yld.fieldAddr rfl rfl rfl rfl rfl rfl rfl) ?_
      refine WA.one 14 (by kernel_rfl) rfl rfl ?_
      first | refine StepTo.sRW 0 rfl rfl rfl rfl rfl rfl rfl rfl (by assumption) rfl overQ (fun _ _ _ => ⟨_, setQ, ⟨[1], by decide, rfl⟩, ?_⟩) | refine StepTo.sRWA 0 rfl rfl rfl rfl rfl rfl rfl rfl rfl (by assumption) rfl overQ (fun _ _ _ => ⟨_, setQ, ⟨[1], by decide, rfl⟩, ?_⟩)
      refine WA.take (idx := [1]) 15 rfl (by kernel_rfl) (by kernel_rfl) (by kernel_rfl) rfl ⟨by decide, rfl⟩ (Yld.pure rfl nrmQ) ?_
      refine WA.take (idx := [1]) 16 rfl (by kernel_rfl) (by kernel_rfl) (by kernel_rfl) rfl ⟨by decide, rfl⟩ (Yld.fieldAddr rfl rfl rfl rfl rfl rfl rfl) ?_
      refine WA.one 17 (by kernel_rfl) rfl rfl ?_
      first | refine StepTo.sRW 0 rfl rfl rfl rfl rfl rfl rfl rfl (by assumption) rfl overQ (fun _ _ _ => ⟨_, setQ, ⟨[1], by decide, rfl⟩, ?_⟩) | refine StepTo.sRWA 0 rfl rfl rfl rfl rfl rfl rfl rfl rfl (by assumption) rfl overQ (fun _ _ _ => ⟨_, setQ, ⟨[1], by decide, rfl⟩, ?_⟩)
      refine WA.done (by kernel_rfl) ?_
      exact WQ.thenN (WQ.met _ _ [0, 2] (by repeat (first | exact Sub.nil | refine Sub.cons rfl ?_ | refine Sub.consE rfl (int_eq (by omega)) ?_)) ⟨by decide, rfl⟩ ⟨_, by assumption, outQ, rfl, rfl⟩)
    · refine StepTo.yld (by first | exact Yld.loadAgg rfl rfl rfl rfl rfl (AggAt.rowPP 0 3 rfl (by assumption) rfl) | exact Yld.loadAgg rfl rfl rfl rfl rfl (AggAt.rowPP 0 8 rfl (by assumption) rfl) | exact Yld.load rfl rfl rfl rfl cellQ | exact Yld.loadAgg rfl rfl rfl rfl rfl aggQ) rfl ⟨⟨[1], by decide, rfl⟩, ?_⟩
      refine WA.one 6 (by kernel_rfl) rfl rfl ?_
      refine StepTo.callV (us := [.agg #[.int .i64 p.srtt, .int .i64 p.var, .int .i64 p.rto, .int .i64 p.backs, .bool p.known]]) rfl rfl rfl rfl rfl (by kernel_rfl) (fun w _ => back_q p.srtt p.var p.rto p.backs p.known w hok.backs.2 hok.backs.1) ⟨⟨[1], by decide, rfl⟩, ?_⟩
      refine WA.one 11 (by kernel_rfl) rfl rfl ?_
      refine StepTo.callV (us := [.agg #[.int .i64 p.cwnd, .int .i64 p.ssth, .int .i64 p.part]]) rfl rfl rfl rfl rfl (by kernel_rfl) (fun w _ => timeout_q p.cwnd p.ssth p.part w) ⟨⟨[1], by decide, rfl⟩, ?_⟩
      refine WA.take (idx := [1]) 12 rfl (by kernel_rfl) (by kernel_rfl) (by kernel_rfl) rfl ⟨by decide, rfl⟩ (Yld.pure rfl nrmQ) ?_
      refine WA.take (idx := [1]) 13 rfl (by kernel_rfl) (by kernel_rfl) (by kernel_rfl) rfl ⟨by decide, rfl⟩ (Yld.fieldAddr rfl rfl rfl rfl rfl rfl rfl) ?_
      refine WA.one 14 (by kernel_rfl) rfl rfl ?_
      first | refine StepTo.sRW 0 rfl rfl rfl rfl rfl rfl rfl rfl (by assumption) rfl overQ (fun _ _ _ => ⟨_, setQ, ⟨[1], by decide, rfl⟩, ?_⟩) | refine StepTo.sRWA 0 rfl rfl rfl rfl rfl rfl rfl rfl rfl (by assumption) rfl overQ (fun _ _ _ => ⟨_, setQ, ⟨[1], by decide, rfl⟩, ?_⟩)
      refine WA.take (idx := [1]) 15 rfl (by kernel_rfl) (by kernel_rfl) (by kernel_rfl) rfl ⟨by decide, rfl⟩ (Yld.pure rfl nrmQ) ?_
      refine WA.take (idx := [1]) 16 rfl (by kernel_rfl) (by kernel_rfl) (by kernel_rfl) rfl ⟨by decide, rfl⟩ (Yld.fieldAddr rfl rfl rfl rfl rfl rfl rfl) ?_
      refine WA.one 17 (by kernel_rfl) rfl rfl ?_
      first | refine StepTo.sRW 0 rfl rfl rfl rfl rfl rfl rfl rfl (by assumption) rfl overQ (fun _ _ _ => ⟨_, setQ, ⟨[1], by decide, rfl⟩, ?_⟩) | refine StepTo.sRWA 0 rfl rfl rfl rfl rfl rfl rfl rfl rfl (by assumption) rfl overQ (fun _ _ _ => ⟨_, setQ, ⟨[1], by decide, rfl⟩, ?_⟩)
      refine WA.done (by kernel_rfl) ?_
      exact WQ.thenN (WQ.met _ _ [0, 2] (by repeat (first | exact Sub.nil | refine Sub.cons rfl ?_ | refine Sub.consE rfl (int_eq (by omega)) ?_)) ⟨by decide, rfl⟩ ⟨_, by assumption, outQ, rfl, rfl⟩)
  · refine StepTo.yld (by first | exact Yld.loadAgg rfl rfl rfl rfl rfl (AggAt.rowPP 0 3 rfl (by assumption) rfl) | exact Yld.loadAgg rfl rfl rfl rfl rfl (AggAt.rowPP 0 8 rfl (by assumption) rfl) | exact Yld.load rfl rfl rfl rfl cellQ | exact Yld.loadAgg rfl rfl rfl rfl rfl aggQ) rfl ⟨⟨[1], by decide, rfl⟩, ?_⟩
    refine WA.one 5 (by kernel_rfl) rfl rfl ?_
    refine StepTo.yld (by first | exact Yld.loadAgg rfl rfl rfl rfl rfl (AggAt.rowPP 0 3 rfl (by assumption) rfl) | exact Yld.loadAgg rfl rfl rfl rfl rfl (AggAt.rowPP 0 8 rfl (by assumption) rfl) | exact Yld.load rfl rfl rfl rfl cellQ | exact Yld.loadAgg rfl rfl rfl rfl rfl aggQ) rfl ⟨⟨[1], by decide, rfl⟩, ?_⟩
    refine WA.one 6 (by kernel_rfl) rfl rfl ?_
    refine StepTo.callV (us := [.agg #[.int .i64 p.srtt, .int .i64 p.var, .int .i64 p.rto, .int .i64 p.backs, .bool p.known]]) rfl rfl rfl rfl rfl (by kernel_rfl) (fun w _ => back_q p.srtt p.var p.rto p.backs p.known w hok.backs.2 hok.backs.1) ⟨⟨[1], by decide, rfl⟩, ?_⟩
    refine WA.one 11 (by kernel_rfl) rfl rfl ?_
    refine StepTo.callV (us := [.agg #[.int .i64 p.cwnd, .int .i64 p.ssth, .int .i64 p.part]]) rfl rfl rfl rfl rfl (by kernel_rfl) (fun w _ => timeout_q p.cwnd p.ssth p.part w) ⟨⟨[1], by decide, rfl⟩, ?_⟩
    refine WA.take (idx := [1]) 12 rfl (by kernel_rfl) (by kernel_rfl) (by kernel_rfl) rfl ⟨by decide, rfl⟩ (Yld.pure rfl nrmQ) ?_
    refine WA.take (idx := [1]) 13 rfl (by kernel_rfl) (by kernel_rfl) (by kernel_rfl) rfl ⟨by decide, rfl⟩ (Yld.fieldAddr rfl rfl rfl rfl rfl rfl rfl) ?_
    refine WA.one 14 (by kernel_rfl) rfl rfl ?_
    first | refine StepTo.sRW 0 rfl rfl rfl rfl rfl rfl rfl rfl (by assumption) rfl overQ (fun _ _ _ => ⟨_, setQ, ⟨[1], by decide, rfl⟩, ?_⟩) | refine StepTo.sRWA 0 rfl rfl rfl rfl rfl rfl rfl rfl rfl (by assumption) rfl overQ (fun _ _ _ => ⟨_, setQ, ⟨[1], by decide, rfl⟩, ?_⟩)
    refine WA.take (idx := [1]) 15 rfl (by kernel_rfl) (by kernel_rfl) (by kernel_rfl) rfl ⟨by decide, rfl⟩ (Yld.pure rfl nrmQ) ?_
    refine WA.take (idx := [1]) 16 rfl (by kernel_rfl) (by kernel_rfl) (by kernel_rfl) rfl ⟨by decide, rfl⟩ (Yld.fieldAddr rfl rfl rfl rfl rfl rfl rfl) ?_
    refine WA.one 17 (by kernel_rfl) rfl rfl ?_
    first | refine StepTo.sRW 0 rfl rfl rfl rfl rfl rfl rfl rfl (by assumption) rfl overQ (fun _ _ _ => ⟨_, setQ, ⟨[1], by decide, rfl⟩, ?_⟩) | refine StepTo.sRWA 0 rfl rfl rfl rfl rfl rfl rfl rfl rfl (by assumption) rfl overQ (fun _ _ _ => ⟨_, setQ, ⟨[1], by decide, rfl⟩, ?_⟩)
    refine WA.done (by kernel_rfl) ?_
    exact WQ.thenN (WQ.met _ _ [0, 2] (by repeat (first | exact Sub.nil | refine Sub.cons rfl ?_ | refine Sub.consE rfl (int_eq (by omega)) ?_)) ⟨by decide, rfl⟩ ⟨_, by assumption, outQ, rfl, rfl⟩)
  clear hP hO ys
  rintro τ H ⟨ys, hP, hO, rfl, rfl⟩
  by_cases h2 : p.state = 2
  · by_cases h5 : 5 < w64 (p.errors + 1)
    · repeat' (first
    | with_reducible refine WL.nil ?_
    | with_reducible refine WQ.thenN ?_
    | with_reducible refine WQ.code ?_
    | with_reducible refine WC.seq ?_
    | with_reducible refine WC.region ?_
    | ((with_reducible refine WL.isN_move ?_); first | refine WL.yld rfl (Yld.pure rfl nrmQ) ?_)
    | ((with_reducible refine WL.isN_bin ?_); first | refine WL.yld rfl (Yld.pure rfl nrmQ) ?_ | refine WL.yld rfl (Yld.rem rfl rfl rfl rfl (by omega) (by omega)) ?_ | refine WL.yld rfl (Yld.quo rfl rfl rfl rfl (by omega) (by omega) nrmQ) ?_ | refine WL.yld rfl (Yld.eqlB rfl rfl rfl rfl) ?_ | refine WL.yld rfl (Yld.neqB rfl rfl rfl rfl) ?_ | refine WL.yld rfl (Yld.eqlA 4 rfl rfl rfl (by kernel_rfl) (by kernel_rfl) rfl rfl) ?_ | refine WL.yld rfl (Yld.neqA 4 rfl rfl rfl (by kernel_rfl) (by kernel_rfl) rfl rfl) ?_ | refine WL.yld rfl (Yld.quoT rfl rfl rfl rfl (by omega) nrmQ) ?_)
    | ((with_reducible refine WL.isN_nil ?_); first | refine WL.yld rfl (Yld.pure rfl nrmQ) ?_)
    | ((with_reducible refine WL.isN_load ?_); first | refine WL.yld rfl (Yld.load rfl rfl rfl rfl cellQ) ?_ | refine WL.yld rfl (Yld.loadAgg rfl rfl rfl rfl rfl aggQ) ?_)
    | ((with_reducible refine WL.isN_faddr ?_); first | refine WL.yld rfl (Yld.fieldAddr rfl rfl rfl rfl rfl rfl rfl) ?_)
    | ((with_reducible refine WL.isN_pick ?_); first | refine WL.yld rfl (Yld.pickT rfl rfl rfl) ?_ | refine WL.yld rfl (Yld.pickF rfl rfl rfl) ?_ | refine WL.yld rfl (Yld.pickTh rfl rfl gdQ rfl) ?_ | refine WL.yld rfl (Yld.pickFh rfl rfl gdQ rfl) ?_ | refine WL.yld rfl (Yld.pickB rfl rfl rfl rfl) ?_)
    | ((with_reducible refine WL.isT ?_); first | refine WL.skipT rfl rfl rfl rfl gdQ ?_ | refine WL.skipU rfl rfl rfl rfl ?_ | refine WL.runT rfl rfl rfl gdQ ?_)
    | ((with_reducible refine WL.isF ?_); first | refine WL.skipF rfl rfl rfl rfl gdQ ?_ | refine WL.skipU rfl rfl rfl rfl ?_ | refine WL.runF rfl rfl rfl gdQ ?_)
    | ((with_reducible refine WL.isN_store ?_); first | refine WL.step rfl (StepTo.sRW 0 rfl rfl rfl rfl rfl rfl rfl rfl (by assumption) rfl overQ (fun _ _ _ => ⟨_, setQ, ?_⟩)) | refine WL.step rfl (StepTo.st1 rfl rfl rfl rfl rfl rfl ?_) | refine WL.step rfl (StepTo.stA rfl rfl rfl rfl rfl rfl rfl ?_) | refine WL.step rfl (StepTo.stR rfl rfl rfl rfl rfl rfl rfl ?_))
    | with_reducible refine WC.block ?_
    | with_reducible refine WC.scope ?_
    | with_reducible refine WC.label ?_
    | with_reducible refine WQ.ngN ?_
    | with_reducible refine WQ.ngR ?_
    | with_reducible refine WQ.ngX ?_
    | with_reducible refine WC.skip ?_
    | with_reducible refine WC.ret ?_
    | with_reducible refine WC.exit ?_
    | with_reducible refine WQ.thenR ?_
    | with_reducible refine WQ.thenX ?_
    | with_reducible refine WQ.blkN ?_
    | with_reducible refine WQ.blkR ?_
    | ((with_reducible refine WQ.blkX ?_ ?_); focus rfl)
    | ((with_reducible refine WQ.blkY ?_ ?_); focus rfl)
    | refine WC.condT rfl ?_
    | refine WC.condF rfl ?_
    | refine WC.condTh rfl gdQ ?_
    | refine WC.condFh rfl gdQ ?_
    | (refine WC.cond rfl (fun hc => ?_) (fun hc => ?_) <;> (try first | (with_reducible replace hc := of_decide_eq_true hc) | (with_reducible replace hc := of_decide_eq_false hc) | (with_reducible replace hc := eqT hc) | (with_reducible replace hc := eqF hc) | (with_reducible replace hc := neT hc) | (with_reducible replace hc := neF hc) | (with_reducible replace hc := noT hc) | (with_reducible replace hc := noF hc)) <;> (try (exfalso; omega))))
      exact WQ.bodyN (Reads.none rfl) fun w' hw' => updEnd (q := failed p) hp hw' outQ (by simp only [failed, Pth.Pth.cs, if_pos (And.intro h2 h5)]; assumption)
    · repeat' (first
    | with_reducible refine WL.nil ?_
    | with_reducible refine WQ.thenN ?_
    | with_reducible refine WQ.code ?_
    | with_reducible refine WC.seq ?_
    | with_reducible refine WC.region ?_
    | ((with_reducible refine WL.isN_move ?_); first | refine WL.yld rfl (Yld.pure rfl nrmQ) ?_)
    | ((with_reducible refine WL.isN_bin ?_); first | refine WL.yld rfl (Yld.pure rfl nrmQ) ?_ | refine WL.yld rfl (Yld.rem rfl rfl rfl rfl (by omega) (by omega)) ?_ | refine WL.yld rfl (Yld.quo rfl rfl rfl rfl (by omega) (by omega) nrmQ) ?_ | refine WL.yld rfl (Yld.eqlB rfl rfl rfl rfl) ?_ | refine WL.yld rfl (Yld.neqB rfl rfl rfl rfl) ?_ | refine WL.yld rfl (Yld.eqlA 4 rfl rfl rfl (by kernel_rfl) (by kernel_rfl) rfl rfl) ?_ | refine WL.yld rfl (Yld.neqA 4 rfl rfl rfl (by kernel_rfl) (by kernel_rfl) rfl rfl) ?_ | refine WL.yld rfl (Yld.quoT rfl rfl rfl rfl (by omega) nrmQ) ?_)
    | ((with_reducible refine WL.isN_nil ?_); first | refine WL.yld rfl (Yld.pure rfl nrmQ) ?_)
    | ((with_reducible refine WL.isN_load ?_); first | refine WL.yld rfl (Yld.load rfl rfl rfl rfl cellQ) ?_ | refine WL.yld rfl (Yld.loadAgg rfl rfl rfl rfl rfl aggQ) ?_)
    | ((with_reducible refine WL.isN_faddr ?_); first | refine WL.yld rfl (Yld.fieldAddr rfl rfl rfl rfl rfl rfl rfl) ?_)
    | ((with_reducible refine WL.isN_pick ?_); first | refine WL.yld rfl (Yld.pickT rfl rfl rfl) ?_ | refine WL.yld rfl (Yld.pickF rfl rfl rfl) ?_ | refine WL.yld rfl (Yld.pickTh rfl rfl gdQ rfl) ?_ | refine WL.yld rfl (Yld.pickFh rfl rfl gdQ rfl) ?_ | refine WL.yld rfl (Yld.pickB rfl rfl rfl rfl) ?_)
    | ((with_reducible refine WL.isT ?_); first | refine WL.skipT rfl rfl rfl rfl gdQ ?_ | refine WL.skipU rfl rfl rfl rfl ?_ | refine WL.runT rfl rfl rfl gdQ ?_)
    | ((with_reducible refine WL.isF ?_); first | refine WL.skipF rfl rfl rfl rfl gdQ ?_ | refine WL.skipU rfl rfl rfl rfl ?_ | refine WL.runF rfl rfl rfl gdQ ?_)
    | ((with_reducible refine WL.isN_store ?_); first | refine WL.step rfl (StepTo.sRW 0 rfl rfl rfl rfl rfl rfl rfl rfl (by assumption) rfl overQ (fun _ _ _ => ⟨_, setQ, ?_⟩)) | refine WL.step rfl (StepTo.st1 rfl rfl rfl rfl rfl rfl ?_) | refine WL.step rfl (StepTo.stA rfl rfl rfl rfl rfl rfl rfl ?_) | refine WL.step rfl (StepTo.stR rfl rfl rfl rfl rfl rfl rfl ?_))
    | with_reducible refine WC.block ?_
    | with_reducible refine WC.scope ?_
    | with_reducible refine WC.label ?_
    | with_reducible refine WQ.ngN ?_
    | with_reducible refine WQ.ngR ?_
    | with_reducible refine WQ.ngX ?_
    | with_reducible refine WC.skip ?_
    | with_reducible refine WC.ret ?_
    | with_reducible refine WC.exit ?_
    | with_reducible refine WQ.thenR ?_
    | with_reducible refine WQ.thenX ?_
    | with_reducible refine WQ.blkN ?_
    | with_reducible refine WQ.blkR ?_
    | ((with_reducible refine WQ.blkX ?_ ?_); focus rfl)
    | ((with_reducible refine WQ.blkY ?_ ?_); focus rfl)
    | refine WC.condT rfl ?_
    | refine WC.condF rfl ?_
    | refine WC.condTh rfl gdQ ?_
    | refine WC.condFh rfl gdQ ?_
    | (refine WC.cond rfl (fun hc => ?_) (fun hc => ?_) <;> (try first | (with_reducible replace hc := of_decide_eq_true hc) | (with_reducible replace hc := of_decide_eq_false hc) | (with_reducible replace hc := eqT hc) | (with_reducible replace hc := eqF hc) | (with_reducible replace hc := neT hc) | (with_reducible replace hc := neF hc) | (with_reducible replace hc := noT hc) | (with_reducible replace hc := noF hc)) <;> (try (exfalso; omega))))
      exact WQ.bodyN (Reads.none rfl) fun w' hw' => updEnd (q := failed p) hp hw' outQ (by simp only [failed, Pth.Pth.cs, if_neg (fun h : p.state = 2 ∧ 5 < w64 (p.errors + 1) => h5 h.2)]; assumption)
  · repeat' (first
    | with_reducible refine WL.nil ?_
    | with_reducible refine WQ.thenN ?_
    | with_reducible refine WQ.code ?_
    | with_reducible refine WC.seq ?_
    | with_reducible refine WC.region ?_
    | ((with_reducible refine WL.isN_move ?_); first | refine WL.yld rfl (Yld.pure rfl nrmQ) ?_)
    | ((with_reducible refine WL.isN_bin ?_); first | refine WL.yld rfl (Yld.pure rfl nrmQ) ?_ | refine WL.yld rfl (Yld.rem rfl rfl rfl rfl (by omega) (by omega)) ?_ | refine WL.yld rfl (Yld.quo rfl rfl rfl rfl (by omega) (by omega) nrmQ) ?_ | refine WL.yld rfl (Yld.eqlB rfl rfl rfl rfl) ?_ | refine WL.yld rfl (Yld.neqB rfl rfl rfl rfl) ?_ | refine WL.yld rfl (Yld.eqlA 4 rfl rfl rfl (by kernel_rfl) (by kernel_rfl) rfl rfl) ?_ | refine WL.yld rfl (Yld.neqA 4 rfl rfl rfl (by kernel_rfl) (by kernel_rfl) rfl rfl) ?_ | refine WL.yld rfl (Yld.quoT rfl rfl rfl rfl (by omega) nrmQ) ?_)
    | ((with_reducible refine WL.isN_nil ?_); first | refine WL.yld rfl (Yld.pure rfl nrmQ) ?_)
    | ((with_reducible refine WL.isN_load ?_); first | refine WL.yld rfl (Yld.load rfl rfl rfl rfl cellQ) ?_ | refine WL.yld rfl (Yld.loadAgg rfl rfl rfl rfl rfl aggQ) ?_)
    | ((with_reducible refine WL.isN_faddr ?_); first | refine WL.yld rfl (Yld.fieldAddr rfl rfl rfl rfl rfl rfl rfl) ?_)
    | ((with_reducible refine WL.isN_pick ?_); first | refine WL.yld rfl (Yld.pickT rfl rfl rfl) ?_ | refine WL.yld rfl (Yld.pickF rfl rfl rfl) ?_ | refine WL.yld rfl (Yld.pickTh rfl rfl gdQ rfl) ?_ | refine WL.yld rfl (Yld.pickFh rfl rfl gdQ rfl) ?_ | refine WL.yld rfl (Yld.pickB rfl rfl rfl rfl) ?_)
    | ((with_reducible refine WL.isT ?_); first | refine WL.skipT rfl rfl rfl rfl gdQ ?_ | refine WL.skipU rfl rfl rfl rfl ?_ | refine WL.runT rfl rfl rfl gdQ ?_)
    | ((with_reducible refine WL.isF ?_); first | refine WL.skipF rfl rfl rfl rfl gdQ ?_ | refine WL.skipU rfl rfl rfl rfl ?_ | refine WL.runF rfl rfl rfl gdQ ?_)
    | ((with_reducible refine WL.isN_store ?_); first | refine WL.step rfl (StepTo.sRW 0 rfl rfl rfl rfl rfl rfl rfl rfl (by assumption) rfl overQ (fun _ _ _ => ⟨_, setQ, ?_⟩)) | refine WL.step rfl (StepTo.st1 rfl rfl rfl rfl rfl rfl ?_) | refine WL.step rfl (StepTo.stA rfl rfl rfl rfl rfl rfl rfl ?_) | refine WL.step rfl (StepTo.stR rfl rfl rfl rfl rfl rfl rfl ?_))
    | with_reducible refine WC.block ?_
    | with_reducible refine WC.scope ?_
    | with_reducible refine WC.label ?_
    | with_reducible refine WQ.ngN ?_
    | with_reducible refine WQ.ngR ?_
    | with_reducible refine WQ.ngX ?_
    | with_reducible refine WC.skip ?_
    | with_reducible refine WC.ret ?_
    | with_reducible refine WC.exit ?_
    | with_reducible refine WQ.thenR ?_
    | with_reducible refine WQ.thenX ?_
    | with_reducible refine WQ.blkN ?_
    | with_reducible refine WQ.blkR ?_
    | ((with_reducible refine WQ.blkX ?_ ?_); focus rfl)
    | ((with_reducible refine WQ.blkY ?_ ?_); focus rfl)
    | refine WC.condT rfl ?_
    | refine WC.condF rfl ?_
    | refine WC.condTh rfl gdQ ?_
    | refine WC.condFh rfl gdQ ?_
    | (refine WC.cond rfl (fun hc => ?_) (fun hc => ?_) <;> (try first | (with_reducible replace hc := of_decide_eq_true hc) | (with_reducible replace hc := of_decide_eq_false hc) | (with_reducible replace hc := eqT hc) | (with_reducible replace hc := eqF hc) | (with_reducible replace hc := neT hc) | (with_reducible replace hc := neF hc) | (with_reducible replace hc := noT hc) | (with_reducible replace hc := noF hc)) <;> (try (exfalso; omega))))
    exact WQ.bodyN (Reads.none rfl) fun w' hw' => updEnd (q := failed p) hp hw' outQ (by simp only [failed, Pth.Pth.cs, if_neg (fun h : p.state = 2 ∧ 5 < w64 (p.errors + 1) => h2 h.1)]; assumption)
end Go.Proofs.Ytdfpfnofaiobgaa
