/- 'told' of the package order: what waits of a stream is taken out, one by one. -/
import Derived.Test.YtegefnidhdicdaaDraw
import Derived.Test.YtegefnidhdicdaaOrdPut
import Derived.Test.YtegefnidhdicdaaOrdEnd
namespace Go.Proofs.Ytegefnidhdicdaa
open Go.RowKit
set_option linter.unusedVariables false

def ToldR (gN kN cN : Nat) (next : List Int) (s : Nat) (r : Int × List Msg × List Msg) (v : Value) (N : List Item) : Prop :=
  ∃ A c L cl, v = .tuple #[.agg #[.slice (some ⟨gN, 0, none⟩) kN cN, .slice A r.2.1.length c], .slice L r.2.2.length cl] ∧
    N = [.row (some ⟨gN, 0, none⟩) kN cN 31 1 (flat u16c (next.set s r.1)), .row A r.2.1.length c 38 6 (flat Msg.cs r.2.1), .row L r.2.2.length cl 38 6 (flat Msg.cs r.2.2)]

theorem mod_row {w w' : World} {b m c t k : Nat} {xs : List Value} (hg : w.grownBy w' (some b)) (ho : w'.ownsRow 0 t k (.slice (some ⟨b, 0, none⟩) m c) m xs) : Mod (fun y => y = b) [.row (some ⟨b, 0, none⟩) m c t k xs] w w' :=
  ⟨⟨hg.os, hg.tape, hg.output, hg.size, fun k hk hd => hg.block k hk (fun e => hd (by injection e))⟩, fun it hit => by
    rw [List.mem_singleton] at hit
    subst hit
    exact ⟨ho, fun y hy => .inr (by simpa [Item.blk] using hy.symm)⟩, List.pairwise_singleton _ _⟩
theorem find_s (AN : Option Addr) (kN cN : Nat) (A : Option Addr) (n c : Nat) (xs : List Msg) (s x r : Int) (w : World) (hL : Ms w w.heap.size A n xs) (h : findF s x xs = r) :
    Calls Try.prog 25 #[.agg #[.slice AN kN cN, .slice A n c], .int .u16 s, .int .u16 x] w fun e w' => e = .returned (.int .i64 r) ∧ Below w.heap.size w w' := find_is _ rfl A n c xs s x r w hL h
set_option maxHeartbeats 2000000 in
theorem told_w (gN kN cN nW cW s : Nat) (AW : Option Addr) (next : List Int) (ms : List Msg) (x : Int) (w : World) (hs : s < kN) (hk : kN ≤ 65535)
    (hN : w.ownsRow 0 31 1 (.slice (some ⟨gN, 0, none⟩) kN cN) kN (flat u16c next)) (hx : next[s]? = some x) (hx0 : 0 ≤ x) (hx1 : x ≤ 65535)
    (hW : w.ownsRow 0 38 6 (.slice AW nW cW) nW (flat Msg.cs ms)) (hl : ms.length = nW) (hn : nW ≤ 1000000) :
    Calls Try.prog 28 #[.agg #[.slice (some ⟨gN, 0, none⟩) kN cN, .slice AW nW cW], .int .u16 s] w
      fun e w' => ∃ v N, e = .returned v ∧ ToldR gN kN cN next s (toldF s ms.length x ms) v N ∧ Mod (fun b => b = gN ∨ AW.map (·.block) = some b) N w w' := by
  have hap := own_ne hN hW (by decide)
  have hS : Sat w (fun b => b = gN ∨ AW.map (·.block) = some b) [.row (some ⟨gN, 0, none⟩) kN cN 31 1 (flat u16c next), .row AW nW cW 38 6 (flat Msg.cs ms)] w := by
    refine ⟨Ext.refl, fun it hit => ?_, fun it hit hm b hb => ?_, ?_⟩
    · simp only [List.mem_cons, List.not_mem_nil, or_false] at hit
      rcases hit with rfl | rfl
      · exact hN
      · exact hW
    · simp only [List.mem_cons, List.not_mem_nil, or_false] at hit
      rcases hit with rfl | rfl
      · simp [Item.blk] at hb; exact .inr (.inl hb.symm)
      · exact .inr (.inr hb)
    · refine List.Pairwise.cons (fun y hy => .inr fun b hb e => ?_) (List.pairwise_singleton _ _)
      simp only [List.mem_singleton] at hy
      subst hy
      simp [Item.blk, Value.ownBlock] at hb e hap
      subst hb
      obtain ⟨a, ha, hab⟩ := e
      subst ha
      simp at hap
      exact hap hab.symm
  have hset : next.set s x = next := by
    obtain ⟨h1, h2⟩ := List.getElem?_eq_some_iff.1 hx
    rw [← h2]; exact List.set_getElem_self h1
  have hnl : next.length = kN := by have := hN.1; rw [flat_len u16c_len] at this; simpa using this
  generalize hR : toldF s ms.length x ms = R at *
  refine enterM _ _ hS Try.func28 rfl (by simp only [Try.ntmps28, List.length_cons, List.length_nil, Nat.reduceAdd, Nat.reduceSub]; rfl) ?_
  repeat' (first
    | with_reducible refine WL.nil ?_
    | with_reducible refine WQ.thenN ?_
    | with_reducible refine WQ.code ?_
    | with_reducible refine WC.seq ?_
    | with_reducible refine WC.region ?_
    | ((with_reducible refine WL.isN_move ?_); first | refine WL.yld rfl (Yld.pure rfl nrmQ) ?_)
    | ((with_reducible refine WL.isN_assign ?_); first | refine WL.yld rfl (Yld.pure rfl nrmQ) ?_)
    | ((with_reducible refine WL.isN_bin ?_); first | refine WL.yld rfl (Yld.pure rfl nrmQ) ?_ | refine WL.yld rfl (Yld.rem rfl rfl rfl rfl (by omega) (by omega)) ?_ | refine WL.yld rfl (Yld.quo rfl rfl rfl rfl (by omega) (by omega) nrmQ) ?_ | refine WL.yld rfl (Yld.eqlB rfl rfl rfl rfl) ?_ | refine WL.yld rfl (Yld.neqB rfl rfl rfl rfl) ?_ | refine WL.yld rfl (Yld.eqlA 4 rfl rfl rfl (by kernel_rfl) (by kernel_rfl) rfl rfl) ?_ | refine WL.yld rfl (Yld.neqA 4 rfl rfl rfl (by kernel_rfl) (by kernel_rfl) rfl rfl) ?_ | refine WL.yld rfl (Yld.quoT rfl rfl rfl rfl (by omega) nrmQ) ?_)
    | ((with_reducible refine WL.isN_load ?_); first | refine WL.yld rfl (Yld.load rfl rfl rfl rfl cellQ) ?_ | refine WL.yld rfl (Yld.loadAgg rfl rfl rfl rfl rfl aggQ) ?_)
    | ((with_reducible refine WL.isN_faddr ?_); first | refine WL.yld rfl (Yld.fieldAddr rfl rfl rfl rfl rfl rfl rfl) ?_)
    | ((with_reducible refine WL.isN_iaddr ?_); first | refine WL.yld rfl (Yld.indexS 0 rfl rfl rfl rfl rfl rfl (by omega)) ?_ | refine WL.yld rfl (Yld.indexS 1 rfl rfl rfl rfl rfl rfl (by omega)) ?_ | refine WL.yld rfl (Yld.indexS 2 rfl rfl rfl rfl rfl rfl (by omega)) ?_ | refine WL.yld rfl (Yld.indexS _ rfl rfl rfl rfl rfl rfl (by omega)) ?_ | refine WL.yld rfl (Yld.indexA 0 rfl rfl rfl rfl rfl rfl (by omega)) ?_ | refine WL.yld rfl (Yld.indexA 1 rfl rfl rfl rfl rfl rfl (by omega)) ?_ | refine WL.yld rfl (Yld.indexA _ rfl rfl rfl rfl rfl rfl (by omega)) ?_)
    | ((with_reducible refine WL.isN_call ?_); first | refine WL.step rfl (StepTo.append 0 rfl rfl rfl rfl rfl rfl rfl rfl rfl rfl rfl rfl (by first | exact CellsAt.boxAll 0 rfl | exact CellsAt.boxAll 1 rfl | exact CellsAt.boxAll 2 rfl | exact CellsAt.boxAll 3 rfl | exact CellsAt.boxAll 4 rfl) rfl rfl (by omega) (fun _ _ => ⟨_, setQ, ?_⟩)) | refine WL.step rfl (StepTo.append 1 rfl rfl rfl rfl rfl rfl rfl rfl rfl rfl rfl rfl (by first | exact CellsAt.boxAll 0 rfl | exact CellsAt.boxAll 1 rfl | exact CellsAt.boxAll 2 rfl | exact CellsAt.boxAll 3 rfl | exact CellsAt.boxAll 4 rfl) rfl rfl (by omega) (fun _ _ => ⟨_, setQ, ?_⟩)) | refine WL.step rfl (StepTo.append 2 rfl rfl rfl rfl rfl rfl rfl rfl rfl rfl rfl rfl (by first | exact CellsAt.boxAll 0 rfl | exact CellsAt.boxAll 1 rfl | exact CellsAt.boxAll 2 rfl | exact CellsAt.boxAll 3 rfl | exact CellsAt.boxAll 4 rfl) rfl rfl (by omega) (fun _ _ => ⟨_, setQ, ?_⟩)) | refine WL.step rfl (StepTo.append 3 rfl rfl rfl rfl rfl rfl rfl rfl rfl rfl rfl rfl (by first | exact CellsAt.boxAll 0 rfl | exact CellsAt.boxAll 1 rfl | exact CellsAt.boxAll 2 rfl | exact CellsAt.boxAll 3 rfl | exact CellsAt.boxAll 4 rfl) rfl rfl (by omega) (fun _ _ => ⟨_, setQ, ?_⟩)) | refine WL.step rfl (StepTo.append 4 rfl rfl rfl rfl rfl rfl rfl rfl rfl rfl rfl rfl (by first | exact CellsAt.boxAll 0 rfl | exact CellsAt.boxAll 1 rfl | exact CellsAt.boxAll 2 rfl | exact CellsAt.boxAll 3 rfl | exact CellsAt.boxAll 4 rfl) rfl rfl (by omega) (fun _ _ => ⟨_, setQ, ?_⟩)) | refine WL.step rfl (StepTo.append 5 rfl rfl rfl rfl rfl rfl rfl rfl rfl rfl rfl rfl (by first | exact CellsAt.boxAll 0 rfl | exact CellsAt.boxAll 1 rfl | exact CellsAt.boxAll 2 rfl | exact CellsAt.boxAll 3 rfl | exact CellsAt.boxAll 4 rfl) rfl rfl (by omega) (fun _ _ => ⟨_, setQ, ?_⟩)) | refine WL.step rfl (StepTo.append 6 rfl rfl rfl rfl rfl rfl rfl rfl rfl rfl rfl rfl (by first | exact CellsAt.boxAll 0 rfl | exact CellsAt.boxAll 1 rfl | exact CellsAt.boxAll 2 rfl | exact CellsAt.boxAll 3 rfl | exact CellsAt.boxAll 4 rfl) rfl rfl (by omega) (fun _ _ => ⟨_, setQ, ?_⟩)))
    | ((with_reducible refine WL.isN_box ?_); first | refine WL.step rfl (StepTo.boxA rfl rfl rfl rfl (fun _ => ?_)) | refine WL.step rfl (StepTo.box1 rfl rfl rfl rfl rfl (fun _ => ?_)))
    | ((with_reducible refine WL.isN_alloc ?_); first | refine WL.step rfl (StepTo.allocA rfl rfl rfl rfl (fun _ => ?_)) | refine WL.step rfl (StepTo.alloc1 rfl rfl rfl rfl rfl (fun _ => ?_)))
    | ((with_reducible refine WL.isN_store ?_); first | refine WL.step rfl (StepTo.store1 0 rfl rfl rfl rfl rfl rfl rfl overQ setQ ?_) | refine WL.step rfl (StepTo.storeA 0 rfl rfl rfl rfl rfl rfl rfl rfl overQ setQ ?_) | refine WL.step rfl (StepTo.storeRow 0 rfl rfl rfl rfl rfl rfl rfl rfl (by omega) setQ ?_) | refine WL.step rfl (StepTo.store1 1 rfl rfl rfl rfl rfl rfl rfl overQ setQ ?_) | refine WL.step rfl (StepTo.storeA 1 rfl rfl rfl rfl rfl rfl rfl rfl overQ setQ ?_) | refine WL.step rfl (StepTo.storeRow 1 rfl rfl rfl rfl rfl rfl rfl rfl (by omega) setQ ?_) | refine WL.step rfl (StepTo.store1 2 rfl rfl rfl rfl rfl rfl rfl overQ setQ ?_) | refine WL.step rfl (StepTo.storeA 2 rfl rfl rfl rfl rfl rfl rfl rfl overQ setQ ?_) | refine WL.step rfl (StepTo.storeRow 2 rfl rfl rfl rfl rfl rfl rfl rfl (by omega) setQ ?_) | refine WL.step rfl (StepTo.store1 3 rfl rfl rfl rfl rfl rfl rfl overQ setQ ?_) | refine WL.step rfl (StepTo.storeA 3 rfl rfl rfl rfl rfl rfl rfl rfl overQ setQ ?_) | refine WL.step rfl (StepTo.storeRow 3 rfl rfl rfl rfl rfl rfl rfl rfl (by omega) setQ ?_) | refine WL.step rfl (StepTo.store1 4 rfl rfl rfl rfl rfl rfl rfl overQ setQ ?_) | refine WL.step rfl (StepTo.storeA 4 rfl rfl rfl rfl rfl rfl rfl rfl overQ setQ ?_) | refine WL.step rfl (StepTo.storeRow 4 rfl rfl rfl rfl rfl rfl rfl rfl (by omega) setQ ?_) | refine WL.step rfl (StepTo.store1 5 rfl rfl rfl rfl rfl rfl rfl overQ setQ ?_) | refine WL.step rfl (StepTo.storeA 5 rfl rfl rfl rfl rfl rfl rfl rfl overQ setQ ?_) | refine WL.step rfl (StepTo.storeRow 5 rfl rfl rfl rfl rfl rfl rfl rfl (by omega) setQ ?_) | refine WL.step rfl (StepTo.store1 6 rfl rfl rfl rfl rfl rfl rfl overQ setQ ?_) | refine WL.step rfl (StepTo.storeA 6 rfl rfl rfl rfl rfl rfl rfl rfl overQ setQ ?_) | refine WL.step rfl (StepTo.storeRow 6 rfl rfl rfl rfl rfl rfl rfl rfl (by omega) setQ ?_) | refine WL.step rfl (StepTo.store1 7 rfl rfl rfl rfl rfl rfl rfl overQ setQ ?_) | refine WL.step rfl (StepTo.storeA 7 rfl rfl rfl rfl rfl rfl rfl rfl overQ setQ ?_) | refine WL.step rfl (StepTo.storeRow 7 rfl rfl rfl rfl rfl rfl rfl rfl (by omega) setQ ?_) | refine WL.step rfl (StepTo.store1 8 rfl rfl rfl rfl rfl rfl rfl overQ setQ ?_) | refine WL.step rfl (StepTo.storeA 8 rfl rfl rfl rfl rfl rfl rfl rfl overQ setQ ?_) | refine WL.step rfl (StepTo.storeRow 8 rfl rfl rfl rfl rfl rfl rfl rfl (by omega) setQ ?_) | refine WL.step rfl (StepTo.store1 9 rfl rfl rfl rfl rfl rfl rfl overQ setQ ?_) | refine WL.step rfl (StepTo.storeA 9 rfl rfl rfl rfl rfl rfl rfl rfl overQ setQ ?_) | refine WL.step rfl (StepTo.storeRow 9 rfl rfl rfl rfl rfl rfl rfl rfl (by omega) setQ ?_) | refine WL.step rfl (StepTo.store1 10 rfl rfl rfl rfl rfl rfl rfl overQ setQ ?_) | refine WL.step rfl (StepTo.storeA 10 rfl rfl rfl rfl rfl rfl rfl rfl overQ setQ ?_) | refine WL.step rfl (StepTo.storeRow 10 rfl rfl rfl rfl rfl rfl rfl rfl (by omega) setQ ?_) | refine WL.step rfl (StepTo.store1 11 rfl rfl rfl rfl rfl rfl rfl overQ setQ ?_) | refine WL.step rfl (StepTo.storeA 11 rfl rfl rfl rfl rfl rfl rfl rfl overQ setQ ?_) | refine WL.step rfl (StepTo.storeRow 11 rfl rfl rfl rfl rfl rfl rfl rfl (by omega) setQ ?_))
    | ((with_reducible refine WL.isN_bslice ?_); first | refine WL.step rfl (StepTo.buildSlice rfl rfl rfl rfl rfl rfl rfl rfl rfl rfl cellsOfQ (fun _ => ?_)))
    | with_reducible refine WC.block ?_
    | with_reducible refine WC.scope ?_
    | with_reducible refine WC.label ?_
    | with_reducible refine WQ.ngN ?_
    | with_reducible refine WQ.ngR ?_
    | with_reducible refine WQ.ngX ?_
    | with_reducible refine WC.skip ?_
    | with_reducible refine WC.ret ?_
    | with_reducible refine WC.exit ?_
    | with_reducible refine WQ.thenR ?_
    | with_reducible refine WQ.thenX ?_
    | with_reducible refine WQ.blkN ?_
    | with_reducible refine WQ.blkR ?_
    | ((with_reducible refine WQ.blkX ?_ ?_); focus rfl)
    | ((with_reducible refine WQ.blkY ?_ ?_); focus rfl)
    | refine WC.condT rfl ?_
    | refine WC.condF rfl ?_
    | refine WC.condTh rfl gdQ ?_
    | refine WC.condFh rfl gdQ ?_
    | (refine WC.cond rfl (fun hc => ?_) (fun hc => ?_) <;> (try first | (with_reducible replace hc := of_decide_eq_true hc) | (with_reducible replace hc := of_decide_eq_false hc) | (with_reducible replace hc := eqT hc) | (with_reducible replace hc := eqF hc) | (with_reducible replace hc := neT hc) | (with_reducible replace hc := neF hc) | (with_reducible replace hc := noT hc) | (with_reducible replace hc := noF hc)) <;> (try (exfalso; omega))))
  rename_i bq br
  refine WC.nilRow 38 6 ?_
  refine WC.loop (fun m τ H => ∃ (ms' : List Msg) (x' : Int) (l : List Msg) (A : Option Addr) (c : Nat) (L : Option Addr) (cl : Nat) (bq br : Nat), m = ms'.length ∧ 0 ≤ x' ∧ x' ≤ 65535 ∧ l.length + ms'.length ≤ nW ∧ R = ((toldF s ms'.length x' ms').1, (toldF s ms'.length x' ms').2.1, l ++ (toldF s ms'.length x' ms').2.2) ∧
      τ = [(1, .int .u16 s), (2, .pointer (some ⟨bq, 0, none⟩)), (4, .pointer (some ⟨br, 0, none⟩)), (6, .slice L l.length cl)] ∧
      H = [.row L l.length cl 38 6 (flat Msg.cs l), .box br 27 [.slice none 0 0, .slice none 0 0], .box bq 27 [.slice (some ⟨gN, 0, none⟩) kN cN, .slice A ms'.length c],
        .row (some ⟨gN, 0, none⟩) kN cN 31 1 (flat u16c (next.set s x')), .row A ms'.length c 38 6 (flat Msg.cs ms')]) ms.length _ _ [0, 1, 2, 3, 4] ?_ ?_
      ⟨ms, x, [], AW, cW, none, 0, bq, br, rfl, hx0, hx1, by simp [hl], by rw [hR]; simp, rfl, rfl⟩ ?_
  · exact (by repeat (first | exact Sub.nil | refine Sub.cons rfl ?_ | refine Sub.consE rfl (int_eq (by omega)) ?_))
  · subst hl
    rw [hset]
    exact ⟨by decide, rfl⟩
  · rintro m τ H ⟨ms', x', l, A, c, L, cl, bq, br, rfl, y0, y1, hll, hRR, rfl, rfl⟩
    have hgx : PartAt (flat u16c (next.set s x')) (s * 1) [.int .u16 x'] := PartAt.flat u16c_len (by rw [List.getElem?_set_self (by omega)])
    have hfl : (flat u16c (next.set s x')).length = kN := by rw [flat_len u16c_len]; simp [hnl]
    by_cases hex : ms'.findIdx (fun m => m.stream == (s : Int) && m.ssn == x') < ms'.length
    · obtain ⟨i, hi⟩ : ∃ i, ms'.findIdx (fun m => m.stream == (s : Int) && m.ssn == x') = i := ⟨_, rfl⟩
      rw [hi] at hex
      have hf : findF s x' ms' = (i : Int) := by unfold findF idx; rw [hi, if_pos hex]
      obtain ⟨m, hm⟩ : ∃ m, ms'[i]? = some m := ⟨_, List.getElem?_eq_getElem hex⟩
      have hgm : PartAt (flat Msg.cs ms') (i * 6) m.cs := PartAt.flat Msg.cs_len hm
      have hT := toldF_some (f := ms'.length - 1) hi hm
      rw [show ms'.length - 1 + 1 = ms'.length from by omega] at hT
      refine WC.rowAt 4 rfl (by omega) fun b hb => ?_
      subst hb
      repeat' (first
    | with_reducible refine WL.nil ?_
    | with_reducible refine WQ.thenN ?_
    | with_reducible refine WQ.code ?_
    | with_reducible refine WC.seq ?_
    | with_reducible refine WC.region ?_
    | ((with_reducible refine WL.isN_move ?_); first | refine WL.yld rfl (Yld.pure rfl nrmQ) ?_)
    | ((with_reducible refine WK.isN_move ?_); first | refine WK.yld rfl (Yld.pure rfl nrmQ) ?_)
    | ((with_reducible refine WL.isN_assign ?_); first | refine WL.yld rfl (Yld.pure rfl nrmQ) ?_)
    | ((with_reducible refine WK.isN_assign ?_); first | refine WK.yld rfl (Yld.pure rfl nrmQ) ?_)
    | ((with_reducible refine WL.isN_bin ?_); first | refine WL.yld rfl (Yld.pure rfl nrmQ) ?_ | refine WL.yld rfl (Yld.rem rfl rfl rfl rfl (by omega) (by omega)) ?_ | refine WL.yld rfl (Yld.quo rfl rfl rfl rfl (by omega) (by omega) nrmQ) ?_ | refine WL.yld rfl (Yld.eqlB rfl rfl rfl rfl) ?_ | refine WL.yld rfl (Yld.neqB rfl rfl rfl rfl) ?_ | refine WL.yld rfl (Yld.eqlA 4 rfl rfl rfl (by kernel_rfl) (by kernel_rfl) rfl rfl) ?_ | refine WL.yld rfl (Yld.neqA 4 rfl rfl rfl (by kernel_rfl) (by kernel_rfl) rfl rfl) ?_ | refine WL.yld rfl (Yld.quoT rfl rfl rfl rfl (by omega) nrmQ) ?_)
    | ((with_reducible refine WK.isN_bin ?_); first | refine WK.yld rfl (Yld.pure rfl nrmQ) ?_ | refine WK.yld rfl (Yld.rem rfl rfl rfl rfl (by omega) (by omega)) ?_ | refine WK.yld rfl (Yld.quo rfl rfl rfl rfl (by omega) (by omega) nrmQ) ?_ | refine WK.yld rfl (Yld.eqlB rfl rfl rfl rfl) ?_ | refine WK.yld rfl (Yld.neqB rfl rfl rfl rfl) ?_ | refine WK.yld rfl (Yld.eqlA 4 rfl rfl rfl (by kernel_rfl) (by kernel_rfl) rfl rfl) ?_ | refine WK.yld rfl (Yld.neqA 4 rfl rfl rfl (by kernel_rfl) (by kernel_rfl) rfl rfl) ?_ | refine WK.yld rfl (Yld.quoT rfl rfl rfl rfl (by omega) nrmQ) ?_)
    | ((with_reducible refine WL.isN_load ?_); first | refine WL.yld rfl (Yld.load rfl rfl rfl rfl cellQ) ?_ | refine WL.yld rfl (Yld.loadAgg rfl rfl rfl rfl rfl aggQ) ?_)
    | ((with_reducible refine WK.isN_load ?_); first | refine WK.yld rfl (Yld.load rfl rfl rfl rfl cellQ) ?_ | refine WK.yld rfl (Yld.loadAgg rfl rfl rfl rfl rfl aggQ) ?_)
    | ((with_reducible refine WL.isN_faddr ?_); first | refine WL.yld rfl (Yld.fieldAddr rfl rfl rfl rfl rfl rfl rfl) ?_)
    | ((with_reducible refine WK.isN_faddr ?_); first | refine WK.yld rfl (Yld.fieldAddr rfl rfl rfl rfl rfl rfl rfl) ?_)
    | ((with_reducible refine WL.isN_iaddr ?_); first | refine WL.yld rfl (Yld.indexS 0 rfl rfl rfl rfl rfl rfl (by omega)) ?_ | refine WL.yld rfl (Yld.indexS 1 rfl rfl rfl rfl rfl rfl (by omega)) ?_ | refine WL.yld rfl (Yld.indexS 2 rfl rfl rfl rfl rfl rfl (by omega)) ?_ | refine WL.yld rfl (Yld.indexS _ rfl rfl rfl rfl rfl rfl (by omega)) ?_ | refine WL.yld rfl (Yld.indexA 0 rfl rfl rfl rfl rfl rfl (by omega)) ?_ | refine WL.yld rfl (Yld.indexA 1 rfl rfl rfl rfl rfl rfl (by omega)) ?_ | refine WL.yld rfl (Yld.indexA _ rfl rfl rfl rfl rfl rfl (by omega)) ?_)
    | ((with_reducible refine WK.isN_iaddr ?_); first | refine WK.yld rfl (Yld.indexS 0 rfl rfl rfl rfl rfl rfl (by omega)) ?_ | refine WK.yld rfl (Yld.indexS 1 rfl rfl rfl rfl rfl rfl (by omega)) ?_ | refine WK.yld rfl (Yld.indexS 2 rfl rfl rfl rfl rfl rfl (by omega)) ?_ | refine WK.yld rfl (Yld.indexS _ rfl rfl rfl rfl rfl rfl (by omega)) ?_ | refine WK.yld rfl (Yld.indexA 0 rfl rfl rfl rfl rfl rfl (by omega)) ?_ | refine WK.yld rfl (Yld.indexA 1 rfl rfl rfl rfl rfl rfl (by omega)) ?_ | refine WK.yld rfl (Yld.indexA _ rfl rfl rfl rfl rfl rfl (by omega)) ?_)
    | ((with_reducible refine WL.isN_call ?_); first | (refine WK.step rfl (Qui.call rfl rfl rfl (by kernel_rfl) (fun w hw => find_s _ _ _ _ _ _ ms' _ _ _ w (hw.lstRow 4 Msg.cs_len (by omega) rfl (by simp only [maxLen]; omega)) hf)) ?_) | refine WL.step rfl (StepTo.append 0 rfl rfl rfl rfl rfl rfl rfl rfl rfl rfl rfl rfl (by first | exact CellsAt.boxAll 0 rfl | exact CellsAt.boxAll 1 rfl | exact CellsAt.boxAll 2 rfl | exact CellsAt.boxAll 3 rfl | exact CellsAt.boxAll 4 rfl) rfl rfl (by omega) (fun _ _ => ⟨_, setQ, ?_⟩)) | refine WL.step rfl (StepTo.append 1 rfl rfl rfl rfl rfl rfl rfl rfl rfl rfl rfl rfl (by first | exact CellsAt.boxAll 0 rfl | exact CellsAt.boxAll 1 rfl | exact CellsAt.boxAll 2 rfl | exact CellsAt.boxAll 3 rfl | exact CellsAt.boxAll 4 rfl) rfl rfl (by omega) (fun _ _ => ⟨_, setQ, ?_⟩)) | refine WL.step rfl (StepTo.append 2 rfl rfl rfl rfl rfl rfl rfl rfl rfl rfl rfl rfl (by first | exact CellsAt.boxAll 0 rfl | exact CellsAt.boxAll 1 rfl | exact CellsAt.boxAll 2 rfl | exact CellsAt.boxAll 3 rfl | exact CellsAt.boxAll 4 rfl) rfl rfl (by omega) (fun _ _ => ⟨_, setQ, ?_⟩)) | refine WL.step rfl (StepTo.append 3 rfl rfl rfl rfl rfl rfl rfl rfl rfl rfl rfl rfl (by first | exact CellsAt.boxAll 0 rfl | exact CellsAt.boxAll 1 rfl | exact CellsAt.boxAll 2 rfl | exact CellsAt.boxAll 3 rfl | exact CellsAt.boxAll 4 rfl) rfl rfl (by omega) (fun _ _ => ⟨_, setQ, ?_⟩)) | refine WL.step rfl (StepTo.append 4 rfl rfl rfl rfl rfl rfl rfl rfl rfl rfl rfl rfl (by first | exact CellsAt.boxAll 0 rfl | exact CellsAt.boxAll 1 rfl | exact CellsAt.boxAll 2 rfl | exact CellsAt.boxAll 3 rfl | exact CellsAt.boxAll 4 rfl) rfl rfl (by omega) (fun _ _ => ⟨_, setQ, ?_⟩)) | refine WL.step rfl (StepTo.append 5 rfl rfl rfl rfl rfl rfl rfl rfl rfl rfl rfl rfl (by first | exact CellsAt.boxAll 0 rfl | exact CellsAt.boxAll 1 rfl | exact CellsAt.boxAll 2 rfl | exact CellsAt.boxAll 3 rfl | exact CellsAt.boxAll 4 rfl) rfl rfl (by omega) (fun _ _ => ⟨_, setQ, ?_⟩)) | refine WL.step rfl (StepTo.append 6 rfl rfl rfl rfl rfl rfl rfl rfl rfl rfl rfl rfl (by first | exact CellsAt.boxAll 0 rfl | exact CellsAt.boxAll 1 rfl | exact CellsAt.boxAll 2 rfl | exact CellsAt.boxAll 3 rfl | exact CellsAt.boxAll 4 rfl) rfl rfl (by omega) (fun _ _ => ⟨_, setQ, ?_⟩)))
    | ((with_reducible refine WK.isN_call ?_); first | (refine WK.step rfl (Qui.call rfl rfl rfl (by kernel_rfl) (fun w hw => find_s _ _ _ _ _ _ ms' _ _ _ w (hw.lstRow 4 Msg.cs_len (by omega) rfl (by simp only [maxLen]; omega)) hf)) ?_))
    | ((with_reducible refine WL.isN_box ?_); first | refine WL.step rfl (StepTo.boxA rfl rfl rfl rfl (fun _ => ?_)) | refine WL.step rfl (StepTo.box1 rfl rfl rfl rfl rfl (fun _ => ?_)))
    | ((with_reducible refine WL.isN_alloc ?_); first | refine WL.step rfl (StepTo.allocA rfl rfl rfl rfl (fun _ => ?_)) | refine WL.step rfl (StepTo.alloc1 rfl rfl rfl rfl rfl (fun _ => ?_)))
    | ((with_reducible refine WL.isN_store ?_); first | refine WL.step rfl (StepTo.store1 0 rfl rfl rfl rfl rfl rfl rfl overQ setQ ?_) | refine WL.step rfl (StepTo.storeA 0 rfl rfl rfl rfl rfl rfl rfl rfl overQ setQ ?_) | refine WL.step rfl (StepTo.storeRow 0 rfl rfl rfl rfl rfl rfl rfl rfl (by omega) setQ ?_) | refine WL.step rfl (StepTo.store1 1 rfl rfl rfl rfl rfl rfl rfl overQ setQ ?_) | refine WL.step rfl (StepTo.storeA 1 rfl rfl rfl rfl rfl rfl rfl rfl overQ setQ ?_) | refine WL.step rfl (StepTo.storeRow 1 rfl rfl rfl rfl rfl rfl rfl rfl (by omega) setQ ?_) | refine WL.step rfl (StepTo.store1 2 rfl rfl rfl rfl rfl rfl rfl overQ setQ ?_) | refine WL.step rfl (StepTo.storeA 2 rfl rfl rfl rfl rfl rfl rfl rfl overQ setQ ?_) | refine WL.step rfl (StepTo.storeRow 2 rfl rfl rfl rfl rfl rfl rfl rfl (by omega) setQ ?_) | refine WL.step rfl (StepTo.store1 3 rfl rfl rfl rfl rfl rfl rfl overQ setQ ?_) | refine WL.step rfl (StepTo.storeA 3 rfl rfl rfl rfl rfl rfl rfl rfl overQ setQ ?_) | refine WL.step rfl (StepTo.storeRow 3 rfl rfl rfl rfl rfl rfl rfl rfl (by omega) setQ ?_) | refine WL.step rfl (StepTo.store1 4 rfl rfl rfl rfl rfl rfl rfl overQ setQ ?_) | refine WL.step rfl (StepTo.storeA 4 rfl rfl rfl rfl rfl rfl rfl rfl overQ setQ ?_) | refine WL.step rfl (StepTo.storeRow 4 rfl rfl rfl rfl rfl rfl rfl rfl (by omega) setQ ?_) | refine WL.step rfl (StepTo.store1 5 rfl rfl rfl rfl rfl rfl rfl overQ setQ ?_) | refine WL.step rfl (StepTo.storeA 5 rfl rfl rfl rfl rfl rfl rfl rfl overQ setQ ?_) | refine WL.step rfl (StepTo.storeRow 5 rfl rfl rfl rfl rfl rfl rfl rfl (by omega) setQ ?_) | refine WL.step rfl (StepTo.store1 6 rfl rfl rfl rfl rfl rfl rfl overQ setQ ?_) | refine WL.step rfl (StepTo.storeA 6 rfl rfl rfl rfl rfl rfl rfl rfl overQ setQ ?_) | refine WL.step rfl (StepTo.storeRow 6 rfl rfl rfl rfl rfl rfl rfl rfl (by omega) setQ ?_) | refine WL.step rfl (StepTo.store1 7 rfl rfl rfl rfl rfl rfl rfl overQ setQ ?_) | refine WL.step rfl (StepTo.storeA 7 rfl rfl rfl rfl rfl rfl rfl rfl overQ setQ ?_) | refine WL.step rfl (StepTo.storeRow 7 rfl rfl rfl rfl rfl rfl rfl rfl (by omega) setQ ?_) | refine WL.step rfl (StepTo.store1 8 rfl rfl rfl rfl rfl rfl rfl overQ setQ ?_) | refine WL.step rfl (StepTo.storeA 8 rfl rfl rfl rfl rfl rfl rfl rfl overQ setQ ?_) | refine WL.step rfl (StepTo.storeRow 8 rfl rfl rfl rfl rfl rfl rfl rfl (by omega) setQ ?_) | refine WL.step rfl (StepTo.store1 9 rfl rfl rfl rfl rfl rfl rfl overQ setQ ?_) | refine WL.step rfl (StepTo.storeA 9 rfl rfl rfl rfl rfl rfl rfl rfl overQ setQ ?_) | refine WL.step rfl (StepTo.storeRow 9 rfl rfl rfl rfl rfl rfl rfl rfl (by omega) setQ ?_) | refine WL.step rfl (StepTo.store1 10 rfl rfl rfl rfl rfl rfl rfl overQ setQ ?_) | refine WL.step rfl (StepTo.storeA 10 rfl rfl rfl rfl rfl rfl rfl rfl overQ setQ ?_) | refine WL.step rfl (StepTo.storeRow 10 rfl rfl rfl rfl rfl rfl rfl rfl (by omega) setQ ?_) | refine WL.step rfl (StepTo.store1 11 rfl rfl rfl rfl rfl rfl rfl overQ setQ ?_) | refine WL.step rfl (StepTo.storeA 11 rfl rfl rfl rfl rfl rfl rfl rfl overQ setQ ?_) | refine WL.step rfl (StepTo.storeRow 11 rfl rfl rfl rfl rfl rfl rfl rfl (by omega) setQ ?_))
    | ((with_reducible refine WL.isN_bslice ?_); first | refine WL.step rfl (StepTo.buildSlice rfl rfl rfl rfl rfl rfl rfl rfl rfl rfl cellsOfQ (fun _ => ?_)))
    | with_reducible refine WC.block ?_
    | with_reducible refine WC.scope ?_
    | with_reducible refine WC.label ?_
    | with_reducible refine WQ.ngN ?_
    | with_reducible refine WQ.ngR ?_
    | with_reducible refine WQ.ngX ?_
    | with_reducible refine WC.skip ?_
    | with_reducible refine WC.ret ?_
    | with_reducible refine WC.exit ?_
    | with_reducible refine WQ.thenR ?_
    | with_reducible refine WQ.thenX ?_
    | with_reducible refine WQ.blkN ?_
    | with_reducible refine WQ.blkR ?_
    | ((with_reducible refine WQ.blkX ?_ ?_); focus rfl)
    | ((with_reducible refine WQ.blkY ?_ ?_); focus rfl)
    | (refine WC.quiet (by kernel_rfl) (by kernel_rfl) ?_)
    | with_reducible refine WK.nil ?_
    | refine WC.condT rfl ?_
    | refine WC.condF rfl ?_
    | refine WC.condTh rfl gdQ ?_
    | refine WC.condFh rfl gdQ ?_
    | (refine WC.cond rfl (fun hc => ?_) (fun hc => ?_) <;> (try first | (with_reducible replace hc := of_decide_eq_true hc) | (with_reducible replace hc := of_decide_eq_false hc) | (with_reducible replace hc := eqT hc) | (with_reducible replace hc := eqF hc) | (with_reducible replace hc := neT hc) | (with_reducible replace hc := neF hc) | (with_reducible replace hc := noT hc) | (with_reducible replace hc := noF hc)) <;> (try (exfalso; omega))))
      rename_i bn L2 cl2
      refine WL.step rfl (StepTo.callM (R := fun v N => v = .slice (some ⟨b, 0, none⟩) (ms'.length - 1) c ∧ N = [.row (some ⟨b, 0, none⟩) (ms'.length - 1) c 38 6 (flat Msg.cs (ms'.eraseIdx i))]) (fun y => y = b) [0, 1, 2, 3, 4] ⟨by decide, rfl⟩
        (fun y hy => ⟨5, _, by decide, rfl, rfl, by subst hy; rfl⟩) rfl rfl rfl rfl rfl (by kernel_rfl) (fun w hw => (delete_len 0 b _ c i ms' w (hw.holds _ (List.mem_of_getElem? (i := 5) rfl)) hex).mono fun e w' ⟨he, ho, hg⟩ => ⟨_, _, he, ⟨rfl, rfl⟩, mod_row hg ho⟩) ?_)
      rintro v N ⟨rfl, rfl⟩
      have hfl2 : (flat u16c (next.set s x')).length = kN := hfl
      repeat' (first
    | with_reducible refine WL.nil ?_
    | with_reducible refine WQ.thenN ?_
    | with_reducible refine WQ.code ?_
    | with_reducible refine WC.seq ?_
    | with_reducible refine WC.region ?_
    | ((with_reducible refine WL.isN_move ?_); first | refine WL.yld rfl (Yld.pure rfl nrmQ) ?_)
    | ((with_reducible refine WL.isN_assign ?_); first | refine WL.yld rfl (Yld.pure rfl nrmQ) ?_)
    | ((with_reducible refine WL.isN_bin ?_); first | refine WL.yld rfl (Yld.pure rfl nrmQ) ?_ | refine WL.yld rfl (Yld.rem rfl rfl rfl rfl (by omega) (by omega)) ?_ | refine WL.yld rfl (Yld.quo rfl rfl rfl rfl (by omega) (by omega) nrmQ) ?_ | refine WL.yld rfl (Yld.eqlB rfl rfl rfl rfl) ?_ | refine WL.yld rfl (Yld.neqB rfl rfl rfl rfl) ?_ | refine WL.yld rfl (Yld.eqlA 4 rfl rfl rfl (by kernel_rfl) (by kernel_rfl) rfl rfl) ?_ | refine WL.yld rfl (Yld.neqA 4 rfl rfl rfl (by kernel_rfl) (by kernel_rfl) rfl rfl) ?_ | refine WL.yld rfl (Yld.quoT rfl rfl rfl rfl (by omega) nrmQ) ?_)
    | ((with_reducible refine WL.isN_load ?_); first | refine WL.yld rfl (Yld.load rfl rfl rfl rfl cellQ) ?_ | refine WL.yld rfl (Yld.loadAgg rfl rfl rfl rfl rfl aggQ) ?_)
    | ((with_reducible refine WL.isN_faddr ?_); first | refine WL.yld rfl (Yld.fieldAddr rfl rfl rfl rfl rfl rfl rfl) ?_)
    | ((with_reducible refine WL.isN_iaddr ?_); first | refine WL.yld rfl (Yld.indexS 0 rfl rfl rfl rfl rfl rfl (by omega)) ?_ | refine WL.yld rfl (Yld.indexS 1 rfl rfl rfl rfl rfl rfl (by omega)) ?_ | refine WL.yld rfl (Yld.indexS 2 rfl rfl rfl rfl rfl rfl (by omega)) ?_ | refine WL.yld rfl (Yld.indexS _ rfl rfl rfl rfl rfl rfl (by omega)) ?_ | refine WL.yld rfl (Yld.indexA 0 rfl rfl rfl rfl rfl rfl (by omega)) ?_ | refine WL.yld rfl (Yld.indexA 1 rfl rfl rfl rfl rfl rfl (by omega)) ?_ | refine WL.yld rfl (Yld.indexA _ rfl rfl rfl rfl rfl rfl (by omega)) ?_)
    | ((with_reducible refine WL.isN_call ?_); first | refine WL.step rfl (StepTo.append 0 rfl rfl rfl rfl rfl rfl rfl rfl rfl rfl rfl rfl (by first | exact CellsAt.boxAll 0 rfl | exact CellsAt.boxAll 1 rfl | exact CellsAt.boxAll 2 rfl | exact CellsAt.boxAll 3 rfl | exact CellsAt.boxAll 4 rfl) rfl rfl (by omega) (fun _ _ => ⟨_, setQ, ?_⟩)) | refine WL.step rfl (StepTo.append 1 rfl rfl rfl rfl rfl rfl rfl rfl rfl rfl rfl rfl (by first | exact CellsAt.boxAll 0 rfl | exact CellsAt.boxAll 1 rfl | exact CellsAt.boxAll 2 rfl | exact CellsAt.boxAll 3 rfl | exact CellsAt.boxAll 4 rfl) rfl rfl (by omega) (fun _ _ => ⟨_, setQ, ?_⟩)) | refine WL.step rfl (StepTo.append 2 rfl rfl rfl rfl rfl rfl rfl rfl rfl rfl rfl rfl (by first | exact CellsAt.boxAll 0 rfl | exact CellsAt.boxAll 1 rfl | exact CellsAt.boxAll 2 rfl | exact CellsAt.boxAll 3 rfl | exact CellsAt.boxAll 4 rfl) rfl rfl (by omega) (fun _ _ => ⟨_, setQ, ?_⟩)) | refine WL.step rfl (StepTo.append 3 rfl rfl rfl rfl rfl rfl rfl rfl rfl rfl rfl rfl (by first | exact CellsAt.boxAll 0 rfl | exact CellsAt.boxAll 1 rfl | exact CellsAt.boxAll 2 rfl | exact CellsAt.boxAll 3 rfl | exact CellsAt.boxAll 4 rfl) rfl rfl (by omega) (fun _ _ => ⟨_, setQ, ?_⟩)) | refine WL.step rfl (StepTo.append 4 rfl rfl rfl rfl rfl rfl rfl rfl rfl rfl rfl rfl (by first | exact CellsAt.boxAll 0 rfl | exact CellsAt.boxAll 1 rfl | exact CellsAt.boxAll 2 rfl | exact CellsAt.boxAll 3 rfl | exact CellsAt.boxAll 4 rfl) rfl rfl (by omega) (fun _ _ => ⟨_, setQ, ?_⟩)) | refine WL.step rfl (StepTo.append 5 rfl rfl rfl rfl rfl rfl rfl rfl rfl rfl rfl rfl (by first | exact CellsAt.boxAll 0 rfl | exact CellsAt.boxAll 1 rfl | exact CellsAt.boxAll 2 rfl | exact CellsAt.boxAll 3 rfl | exact CellsAt.boxAll 4 rfl) rfl rfl (by omega) (fun _ _ => ⟨_, setQ, ?_⟩)) | refine WL.step rfl (StepTo.append 6 rfl rfl rfl rfl rfl rfl rfl rfl rfl rfl rfl rfl (by first | exact CellsAt.boxAll 0 rfl | exact CellsAt.boxAll 1 rfl | exact CellsAt.boxAll 2 rfl | exact CellsAt.boxAll 3 rfl | exact CellsAt.boxAll 4 rfl) rfl rfl (by omega) (fun _ _ => ⟨_, setQ, ?_⟩)))
    | ((with_reducible refine WL.isN_box ?_); first | refine WL.step rfl (StepTo.boxA rfl rfl rfl rfl (fun _ => ?_)) | refine WL.step rfl (StepTo.box1 rfl rfl rfl rfl rfl (fun _ => ?_)))
    | ((with_reducible refine WL.isN_alloc ?_); first | refine WL.step rfl (StepTo.allocA rfl rfl rfl rfl (fun _ => ?_)) | refine WL.step rfl (StepTo.alloc1 rfl rfl rfl rfl rfl (fun _ => ?_)))
    | ((with_reducible refine WL.isN_store ?_); first | refine WL.step rfl (StepTo.store1 0 rfl rfl rfl rfl rfl rfl rfl overQ setQ ?_) | refine WL.step rfl (StepTo.storeA 0 rfl rfl rfl rfl rfl rfl rfl rfl overQ setQ ?_) | refine WL.step rfl (StepTo.storeRow 0 rfl rfl rfl rfl rfl rfl rfl rfl (by omega) setQ ?_) | refine WL.step rfl (StepTo.store1 1 rfl rfl rfl rfl rfl rfl rfl overQ setQ ?_) | refine WL.step rfl (StepTo.storeA 1 rfl rfl rfl rfl rfl rfl rfl rfl overQ setQ ?_) | refine WL.step rfl (StepTo.storeRow 1 rfl rfl rfl rfl rfl rfl rfl rfl (by omega) setQ ?_) | refine WL.step rfl (StepTo.store1 2 rfl rfl rfl rfl rfl rfl rfl overQ setQ ?_) | refine WL.step rfl (StepTo.storeA 2 rfl rfl rfl rfl rfl rfl rfl rfl overQ setQ ?_) | refine WL.step rfl (StepTo.storeRow 2 rfl rfl rfl rfl rfl rfl rfl rfl (by omega) setQ ?_) | refine WL.step rfl (StepTo.store1 3 rfl rfl rfl rfl rfl rfl rfl overQ setQ ?_) | refine WL.step rfl (StepTo.storeA 3 rfl rfl rfl rfl rfl rfl rfl rfl overQ setQ ?_) | refine WL.step rfl (StepTo.storeRow 3 rfl rfl rfl rfl rfl rfl rfl rfl (by omega) setQ ?_) | refine WL.step rfl (StepTo.store1 4 rfl rfl rfl rfl rfl rfl rfl overQ setQ ?_) | refine WL.step rfl (StepTo.storeA 4 rfl rfl rfl rfl rfl rfl rfl rfl overQ setQ ?_) | refine WL.step rfl (StepTo.storeRow 4 rfl rfl rfl rfl rfl rfl rfl rfl (by omega) setQ ?_) | refine WL.step rfl (StepTo.store1 5 rfl rfl rfl rfl rfl rfl rfl overQ setQ ?_) | refine WL.step rfl (StepTo.storeA 5 rfl rfl rfl rfl rfl rfl rfl rfl overQ setQ ?_) | refine WL.step rfl (StepTo.storeRow 5 rfl rfl rfl rfl rfl rfl rfl rfl (by omega) setQ ?_) | refine WL.step rfl (StepTo.store1 6 rfl rfl rfl rfl rfl rfl rfl overQ setQ ?_) | refine WL.step rfl (StepTo.storeA 6 rfl rfl rfl rfl rfl rfl rfl rfl overQ setQ ?_) | refine WL.step rfl (StepTo.storeRow 6 rfl rfl rfl rfl rfl rfl rfl rfl (by omega) setQ ?_) | refine WL.step rfl (StepTo.store1 7 rfl rfl rfl rfl rfl rfl rfl overQ setQ ?_) | refine WL.step rfl (StepTo.storeA 7 rfl rfl rfl rfl rfl rfl rfl rfl overQ setQ ?_) | refine WL.step rfl (StepTo.storeRow 7 rfl rfl rfl rfl rfl rfl rfl rfl (by omega) setQ ?_) | refine WL.step rfl (StepTo.store1 8 rfl rfl rfl rfl rfl rfl rfl overQ setQ ?_) | refine WL.step rfl (StepTo.storeA 8 rfl rfl rfl rfl rfl rfl rfl rfl overQ setQ ?_) | refine WL.step rfl (StepTo.storeRow 8 rfl rfl rfl rfl rfl rfl rfl rfl (by omega) setQ ?_) | refine WL.step rfl (StepTo.store1 9 rfl rfl rfl rfl rfl rfl rfl overQ setQ ?_) | refine WL.step rfl (StepTo.storeA 9 rfl rfl rfl rfl rfl rfl rfl rfl overQ setQ ?_) | refine WL.step rfl (StepTo.storeRow 9 rfl rfl rfl rfl rfl rfl rfl rfl (by omega) setQ ?_) | refine WL.step rfl (StepTo.store1 10 rfl rfl rfl rfl rfl rfl rfl overQ setQ ?_) | refine WL.step rfl (StepTo.storeA 10 rfl rfl rfl rfl rfl rfl rfl rfl overQ setQ ?_) | refine WL.step rfl (StepTo.storeRow 10 rfl rfl rfl rfl rfl rfl rfl rfl (by omega) setQ ?_) | refine WL.step rfl (StepTo.store1 11 rfl rfl rfl rfl rfl rfl rfl overQ setQ ?_) | refine WL.step rfl (StepTo.storeA 11 rfl rfl rfl rfl rfl rfl rfl rfl overQ setQ ?_) | refine WL.step rfl (StepTo.storeRow 11 rfl rfl rfl rfl rfl rfl rfl rfl (by omega) setQ ?_))
    | ((with_reducible refine WL.isN_bslice ?_); first | refine WL.step rfl (StepTo.buildSlice rfl rfl rfl rfl rfl rfl rfl rfl rfl rfl cellsOfQ (fun _ => ?_)))
    | with_reducible refine WC.block ?_
    | with_reducible refine WC.scope ?_
    | with_reducible refine WC.label ?_
    | with_reducible refine WQ.ngN ?_
    | with_reducible refine WQ.ngR ?_
    | with_reducible refine WQ.ngX ?_
    | with_reducible refine WC.skip ?_
    | with_reducible refine WC.ret ?_
    | with_reducible refine WC.exit ?_
    | with_reducible refine WQ.thenR ?_
    | with_reducible refine WQ.thenX ?_
    | with_reducible refine WQ.blkN ?_
    | with_reducible refine WQ.blkR ?_
    | ((with_reducible refine WQ.blkX ?_ ?_); focus rfl)
    | ((with_reducible refine WQ.blkY ?_ ?_); focus rfl)
    | refine WC.condT rfl ?_
    | refine WC.condF rfl ?_
    | refine WC.condTh rfl gdQ ?_
    | refine WC.condFh rfl gdQ ?_
    | (refine WC.cond rfl (fun hc => ?_) (fun hc => ?_) <;> (try first | (with_reducible replace hc := of_decide_eq_true hc) | (with_reducible replace hc := of_decide_eq_false hc) | (with_reducible replace hc := eqT hc) | (with_reducible replace hc := eqF hc) | (with_reducible replace hc := neT hc) | (with_reducible replace hc := neF hc) | (with_reducible replace hc := noT hc) | (with_reducible replace hc := noF hc)) <;> (try (exfalso; omega))))
      have hle : (ms'.eraseIdx i).length = ms'.length - 1 := by rw [List.length_eraseIdx, if_pos hex]
      have e1 : (flat u16c (next.set s x')).set (0 + s * 1) (.int .u16 ((x' + 1) % 65536)) = flat u16c (next.set s ((x' + 1) % 65536)) := by
        rw [Nat.zero_add, Nat.mul_one, ← flat_setU, List.set_set]
      have e2 : flat Msg.cs (l ++ [m]) = flat Msg.cs l ++ m.cs := flat_snoc l m
      have e3 : (l ++ [m]).length = l.length + 1 := by simp
      refine WQ.rnd (ms'.length - 1) _ _ [2, 3, 4, 5, 0] ?_ ?_ (by omega) ⟨ms'.eraseIdx i, (x' + 1) % 65536, l ++ [m], some ⟨b, 0, none⟩, c, L2, cl2, bq, br, hle.symm, by omega, by omega, by omega, ?_, rfl, rfl⟩
      · rw [e3]; exact (by repeat (first | exact Sub.nil | refine Sub.cons rfl ?_ | refine Sub.consE rfl (int_eq (by omega)) ?_))
      · rw [e2, e3, hle, ← e1]; exact ⟨by decide, rfl⟩
      · rw [hRR, hT, hle]; simp
    · have hf : findF s x' ms' = -1 := by unfold findF idx; rw [if_neg hex]
      have hno : ∀ j (h : j < ms'.length), (ms'[j].stream == (s : Int) && ms'[j].ssn == x') = false := fun j h => by
        have h1 : j < ms'.findIdx (fun m => m.stream == (s : Int) && m.ssn == x') := by omega
        have h2 := List.not_of_lt_findIdx h1
        simpa using h2
      have hE := toldF_none (f := ms'.length) hno
      repeat' (first
    | with_reducible refine WL.nil ?_
    | with_reducible refine WQ.thenN ?_
    | with_reducible refine WQ.code ?_
    | with_reducible refine WC.seq ?_
    | with_reducible refine WC.region ?_
    | ((with_reducible refine WL.isN_move ?_); first | refine WL.yld rfl (Yld.pure rfl nrmQ) ?_)
    | ((with_reducible refine WK.isN_move ?_); first | refine WK.yld rfl (Yld.pure rfl nrmQ) ?_)
    | ((with_reducible refine WL.isN_assign ?_); first | refine WL.yld rfl (Yld.pure rfl nrmQ) ?_)
    | ((with_reducible refine WK.isN_assign ?_); first | refine WK.yld rfl (Yld.pure rfl nrmQ) ?_)
    | ((with_reducible refine WL.isN_bin ?_); first | refine WL.yld rfl (Yld.pure rfl nrmQ) ?_ | refine WL.yld rfl (Yld.rem rfl rfl rfl rfl (by omega) (by omega)) ?_ | refine WL.yld rfl (Yld.quo rfl rfl rfl rfl (by omega) (by omega) nrmQ) ?_ | refine WL.yld rfl (Yld.eqlB rfl rfl rfl rfl) ?_ | refine WL.yld rfl (Yld.neqB rfl rfl rfl rfl) ?_ | refine WL.yld rfl (Yld.eqlA 4 rfl rfl rfl (by kernel_rfl) (by kernel_rfl) rfl rfl) ?_ | refine WL.yld rfl (Yld.neqA 4 rfl rfl rfl (by kernel_rfl) (by kernel_rfl) rfl rfl) ?_ | refine WL.yld rfl (Yld.quoT rfl rfl rfl rfl (by omega) nrmQ) ?_)
    | ((with_reducible refine WK.isN_bin ?_); first | refine WK.yld rfl (Yld.pure rfl nrmQ) ?_ | refine WK.yld rfl (Yld.rem rfl rfl rfl rfl (by omega) (by omega)) ?_ | refine WK.yld rfl (Yld.quo rfl rfl rfl rfl (by omega) (by omega) nrmQ) ?_ | refine WK.yld rfl (Yld.eqlB rfl rfl rfl rfl) ?_ | refine WK.yld rfl (Yld.neqB rfl rfl rfl rfl) ?_ | refine WK.yld rfl (Yld.eqlA 4 rfl rfl rfl (by kernel_rfl) (by kernel_rfl) rfl rfl) ?_ | refine WK.yld rfl (Yld.neqA 4 rfl rfl rfl (by kernel_rfl) (by kernel_rfl) rfl rfl) ?_ | refine WK.yld rfl (Yld.quoT rfl rfl rfl rfl (by omega) nrmQ) ?_)
    | ((with_reducible refine WL.isN_load ?_); first | refine WL.yld rfl (Yld.load rfl rfl rfl rfl cellQ) ?_ | refine WL.yld rfl (Yld.loadAgg rfl rfl rfl rfl rfl aggQ) ?_)
    | ((with_reducible refine WK.isN_load ?_); first | refine WK.yld rfl (Yld.load rfl rfl rfl rfl cellQ) ?_ | refine WK.yld rfl (Yld.loadAgg rfl rfl rfl rfl rfl aggQ) ?_)
    | ((with_reducible refine WL.isN_faddr ?_); first | refine WL.yld rfl (Yld.fieldAddr rfl rfl rfl rfl rfl rfl rfl) ?_)
    | ((with_reducible refine WK.isN_faddr ?_); first | refine WK.yld rfl (Yld.fieldAddr rfl rfl rfl rfl rfl rfl rfl) ?_)
    | ((with_reducible refine WL.isN_iaddr ?_); first | refine WL.yld rfl (Yld.indexS 0 rfl rfl rfl rfl rfl rfl (by omega)) ?_ | refine WL.yld rfl (Yld.indexS 1 rfl rfl rfl rfl rfl rfl (by omega)) ?_ | refine WL.yld rfl (Yld.indexS 2 rfl rfl rfl rfl rfl rfl (by omega)) ?_ | refine WL.yld rfl (Yld.indexS _ rfl rfl rfl rfl rfl rfl (by omega)) ?_ | refine WL.yld rfl (Yld.indexA 0 rfl rfl rfl rfl rfl rfl (by omega)) ?_ | refine WL.yld rfl (Yld.indexA 1 rfl rfl rfl rfl rfl rfl (by omega)) ?_ | refine WL.yld rfl (Yld.indexA _ rfl rfl rfl rfl rfl rfl (by omega)) ?_)
    | ((with_reducible refine WK.isN_iaddr ?_); first | refine WK.yld rfl (Yld.indexS 0 rfl rfl rfl rfl rfl rfl (by omega)) ?_ | refine WK.yld rfl (Yld.indexS 1 rfl rfl rfl rfl rfl rfl (by omega)) ?_ | refine WK.yld rfl (Yld.indexS 2 rfl rfl rfl rfl rfl rfl (by omega)) ?_ | refine WK.yld rfl (Yld.indexS _ rfl rfl rfl rfl rfl rfl (by omega)) ?_ | refine WK.yld rfl (Yld.indexA 0 rfl rfl rfl rfl rfl rfl (by omega)) ?_ | refine WK.yld rfl (Yld.indexA 1 rfl rfl rfl rfl rfl rfl (by omega)) ?_ | refine WK.yld rfl (Yld.indexA _ rfl rfl rfl rfl rfl rfl (by omega)) ?_)
    | ((with_reducible refine WL.isN_call ?_); first | (refine WK.step rfl (Qui.call rfl rfl rfl (by kernel_rfl) (fun w hw => find_s _ _ _ _ _ _ ms' _ _ _ w (hw.lstRow 4 Msg.cs_len (by omega) rfl (by simp only [maxLen]; omega)) hf)) ?_) | refine WL.step rfl (StepTo.append 0 rfl rfl rfl rfl rfl rfl rfl rfl rfl rfl rfl rfl (by first | exact CellsAt.boxAll 0 rfl | exact CellsAt.boxAll 1 rfl | exact CellsAt.boxAll 2 rfl | exact CellsAt.boxAll 3 rfl | exact CellsAt.boxAll 4 rfl) rfl rfl (by omega) (fun _ _ => ⟨_, setQ, ?_⟩)) | refine WL.step rfl (StepTo.append 1 rfl rfl rfl rfl rfl rfl rfl rfl rfl rfl rfl rfl (by first | exact CellsAt.boxAll 0 rfl | exact CellsAt.boxAll 1 rfl | exact CellsAt.boxAll 2 rfl | exact CellsAt.boxAll 3 rfl | exact CellsAt.boxAll 4 rfl) rfl rfl (by omega) (fun _ _ => ⟨_, setQ, ?_⟩)) | refine WL.step rfl (StepTo.append 2 rfl rfl rfl rfl rfl rfl rfl rfl rfl rfl rfl rfl (by first | exact CellsAt.boxAll 0 rfl | exact CellsAt.boxAll 1 rfl | exact CellsAt.boxAll 2 rfl | exact CellsAt.boxAll 3 rfl | exact CellsAt.boxAll 4 rfl) rfl rfl (by omega) (fun _ _ => ⟨_, setQ, ?_⟩)) | refine WL.step rfl (StepTo.append 3 rfl rfl rfl rfl rfl rfl rfl rfl rfl rfl rfl rfl (by first | exact CellsAt.boxAll 0 rfl | exact CellsAt.boxAll 1 rfl | exact CellsAt.boxAll 2 rfl | exact CellsAt.boxAll 3 rfl | exact CellsAt.boxAll 4 rfl) rfl rfl (by omega) (fun _ _ => ⟨_, setQ, ?_⟩)) | refine WL.step rfl (StepTo.append 4 rfl rfl rfl rfl rfl rfl rfl rfl rfl rfl rfl rfl (by first | exact CellsAt.boxAll 0 rfl | exact CellsAt.boxAll 1 rfl | exact CellsAt.boxAll 2 rfl | exact CellsAt.boxAll 3 rfl | exact CellsAt.boxAll 4 rfl) rfl rfl (by omega) (fun _ _ => ⟨_, setQ, ?_⟩)) | refine WL.step rfl (StepTo.append 5 rfl rfl rfl rfl rfl rfl rfl rfl rfl rfl rfl rfl (by first | exact CellsAt.boxAll 0 rfl | exact CellsAt.boxAll 1 rfl | exact CellsAt.boxAll 2 rfl | exact CellsAt.boxAll 3 rfl | exact CellsAt.boxAll 4 rfl) rfl rfl (by omega) (fun _ _ => ⟨_, setQ, ?_⟩)) | refine WL.step rfl (StepTo.append 6 rfl rfl rfl rfl rfl rfl rfl rfl rfl rfl rfl rfl (by first | exact CellsAt.boxAll 0 rfl | exact CellsAt.boxAll 1 rfl | exact CellsAt.boxAll 2 rfl | exact CellsAt.boxAll 3 rfl | exact CellsAt.boxAll 4 rfl) rfl rfl (by omega) (fun _ _ => ⟨_, setQ, ?_⟩)))
    | ((with_reducible refine WK.isN_call ?_); first | (refine WK.step rfl (Qui.call rfl rfl rfl (by kernel_rfl) (fun w hw => find_s _ _ _ _ _ _ ms' _ _ _ w (hw.lstRow 4 Msg.cs_len (by omega) rfl (by simp only [maxLen]; omega)) hf)) ?_))
    | ((with_reducible refine WL.isN_box ?_); first | refine WL.step rfl (StepTo.boxA rfl rfl rfl rfl (fun _ => ?_)) | refine WL.step rfl (StepTo.box1 rfl rfl rfl rfl rfl (fun _ => ?_)))
    | ((with_reducible refine WL.isN_alloc ?_); first | refine WL.step rfl (StepTo.allocA rfl rfl rfl rfl (fun _ => ?_)) | refine WL.step rfl (StepTo.alloc1 rfl rfl rfl rfl rfl (fun _ => ?_)))
    | ((with_reducible refine WL.isN_store ?_); first | refine WL.step rfl (StepTo.store1 0 rfl rfl rfl rfl rfl rfl rfl overQ setQ ?_) | refine WL.step rfl (StepTo.storeA 0 rfl rfl rfl rfl rfl rfl rfl rfl overQ setQ ?_) | refine WL.step rfl (StepTo.storeRow 0 rfl rfl rfl rfl rfl rfl rfl rfl (by omega) setQ ?_) | refine WL.step rfl (StepTo.store1 1 rfl rfl rfl rfl rfl rfl rfl overQ setQ ?_) | refine WL.step rfl (StepTo.storeA 1 rfl rfl rfl rfl rfl rfl rfl rfl overQ setQ ?_) | refine WL.step rfl (StepTo.storeRow 1 rfl rfl rfl rfl rfl rfl rfl rfl (by omega) setQ ?_) | refine WL.step rfl (StepTo.store1 2 rfl rfl rfl rfl rfl rfl rfl overQ setQ ?_) | refine WL.step rfl (StepTo.storeA 2 rfl rfl rfl rfl rfl rfl rfl rfl overQ setQ ?_) | refine WL.step rfl (StepTo.storeRow 2 rfl rfl rfl rfl rfl rfl rfl rfl (by omega) setQ ?_) | refine WL.step rfl (StepTo.store1 3 rfl rfl rfl rfl rfl rfl rfl overQ setQ ?_) | refine WL.step rfl (StepTo.storeA 3 rfl rfl rfl rfl rfl rfl rfl rfl overQ setQ ?_) | refine WL.step rfl (StepTo.storeRow 3 rfl rfl rfl rfl rfl rfl rfl rfl (by omega) setQ ?_) | refine WL.step rfl (StepTo.store1 4 rfl rfl rfl rfl rfl rfl rfl overQ setQ ?_) | refine WL.step rfl (StepTo.storeA 4 rfl rfl rfl rfl rfl rfl rfl rfl overQ setQ ?_) | refine WL.step rfl (StepTo.storeRow 4 rfl rfl rfl rfl rfl rfl rfl rfl (by omega) setQ ?_) | refine WL.step rfl (StepTo.store1 5 rfl rfl rfl rfl rfl rfl rfl overQ setQ ?_) | refine WL.step rfl (StepTo.storeA 5 rfl rfl rfl rfl rfl rfl rfl rfl overQ setQ ?_) | refine WL.step rfl (StepTo.storeRow 5 rfl rfl rfl rfl rfl rfl rfl rfl (by omega) setQ ?_) | refine WL.step rfl (StepTo.store1 6 rfl rfl rfl rfl rfl rfl rfl overQ setQ ?_) | refine WL.step rfl (StepTo.storeA 6 rfl rfl rfl rfl rfl rfl rfl rfl overQ setQ ?_) | refine WL.step rfl (StepTo.storeRow 6 rfl rfl rfl rfl rfl rfl rfl rfl (by omega) setQ ?_) | refine WL.step rfl (StepTo.store1 7 rfl rfl rfl rfl rfl rfl rfl overQ setQ ?_) | refine WL.step rfl (StepTo.storeA 7 rfl rfl rfl rfl rfl rfl rfl rfl overQ setQ ?_) | refine WL.step rfl (StepTo.storeRow 7 rfl rfl rfl rfl rfl rfl rfl rfl (by omega) setQ ?_) | refine WL.step rfl (StepTo.store1 8 rfl rfl rfl rfl rfl rfl rfl overQ setQ ?_) | refine WL.step rfl (StepTo.storeA 8 rfl rfl rfl rfl rfl rfl rfl rfl overQ setQ ?_) | refine WL.step rfl (StepTo.storeRow 8 rfl rfl rfl rfl rfl rfl rfl rfl (by omega) setQ ?_) | refine WL.step rfl (StepTo.store1 9 rfl rfl rfl rfl rfl rfl rfl overQ setQ ?_) | refine WL.step rfl (StepTo.storeA 9 rfl rfl rfl rfl rfl rfl rfl rfl overQ setQ ?_) | refine WL.step rfl (StepTo.storeRow 9 rfl rfl rfl rfl rfl rfl rfl rfl (by omega) setQ ?_) | refine WL.step rfl (StepTo.store1 10 rfl rfl rfl rfl rfl rfl rfl overQ setQ ?_) | refine WL.step rfl (StepTo.storeA 10 rfl rfl rfl rfl rfl rfl rfl rfl overQ setQ ?_) | refine WL.step rfl (StepTo.storeRow 10 rfl rfl rfl rfl rfl rfl rfl rfl (by omega) setQ ?_) | refine WL.step rfl (StepTo.store1 11 rfl rfl rfl rfl rfl rfl rfl overQ setQ ?_) | refine WL.step rfl (StepTo.storeA 11 rfl rfl rfl rfl rfl rfl rfl rfl overQ setQ ?_) | refine WL.step rfl (StepTo.storeRow 11 rfl rfl rfl rfl rfl rfl rfl rfl (by omega) setQ ?_))
    | ((with_reducible refine WL.isN_bslice ?_); first | refine WL.step rfl (StepTo.buildSlice rfl rfl rfl rfl rfl rfl rfl rfl rfl rfl cellsOfQ (fun _ => ?_)))
    | with_reducible refine WC.block ?_
    | with_reducible refine WC.scope ?_
    | with_reducible refine WC.label ?_
    | with_reducible refine WQ.ngN ?_
    | with_reducible refine WQ.ngR ?_
    | with_reducible refine WQ.ngX ?_
    | with_reducible refine WC.skip ?_
    | with_reducible refine WC.ret ?_
    | with_reducible refine WC.exit ?_
    | with_reducible refine WQ.thenR ?_
    | with_reducible refine WQ.thenX ?_
    | with_reducible refine WQ.blkN ?_
    | with_reducible refine WQ.blkR ?_
    | ((with_reducible refine WQ.blkX ?_ ?_); focus rfl)
    | ((with_reducible refine WQ.blkY ?_ ?_); focus rfl)
    | (refine WC.quiet (by kernel_rfl) (by kernel_rfl) ?_)
    | with_reducible refine WK.nil ?_
    | refine WC.condT rfl ?_
    | refine WC.condF rfl ?_
    | refine WC.condTh rfl gdQ ?_
    | refine WC.condFh rfl gdQ ?_
    | (refine WC.cond rfl (fun hc => ?_) (fun hc => ?_) <;> (try first | (with_reducible replace hc := of_decide_eq_true hc) | (with_reducible replace hc := of_decide_eq_false hc) | (with_reducible replace hc := eqT hc) | (with_reducible replace hc := eqF hc) | (with_reducible replace hc := neT hc) | (with_reducible replace hc := neF hc) | (with_reducible replace hc := noT hc) | (with_reducible replace hc := noF hc)) <;> (try (exfalso; omega))))
      have hR' : R = (x', ms', l) := by rw [hRR, hE]; simp
      refine WQ.body (Reads.two rfl (Res1.cellA rfl rfl rfl rfl (AggAt.box 1 rfl rfl)) (Res1.tmp rfl)) fun w' hw' => ⟨_, _, rfl, ⟨A, c, L, cl, by rw [hR'], rfl⟩, ?_⟩
      rw [hR']
      exact (hw'.pick (idx := [3, 4, 0]) ⟨by decide, rfl⟩).toMod (by simp [Item.mine])
end Go.Proofs.Ytegefnidhdicdaa
