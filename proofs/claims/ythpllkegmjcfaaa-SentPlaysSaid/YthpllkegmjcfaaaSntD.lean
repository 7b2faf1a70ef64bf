/- 'Losses', 'Drop', 'Again' of the package sent. -/
import Derived.Test.YthpllkegmjcfaaaSntS
import Derived.Test.YthpllkegmjcfaaaHg
namespace Go.Proofs.Ythpllkegmjcfaaa
open Go.RowKit
set_option linter.unusedVariables false

theorem WL.rowAt {P : Program} {w0 : World} {D : Nat → Prop} {n : Nat} {Q : Exit → Act → World → Prop} {τ : Tm} {H : List Item} {ops : Array Oper} {l : List Oper} (i : Nat) {A : Option Addr} {m cap t k : Nat} {xs : List Value} (hi : H[i]? = some (.row A m cap t k xs)) (hm : 0 < m) (h : ∀ b, A = some ⟨b, 0, none⟩ → WL P w0 D n ops Q l τ H) : WL P w0 D n ops Q l τ H :=
  ⟨fun a w ha hw => by
    obtain ⟨b, hb⟩ := Item.row_shape (hw.holds _ (List.mem_of_getElem? hi)) hm
    exact (h b hb).go a w ha hw⟩
def lostN (ps : List Pc) : List Int := (ps.filter fun p => p.state == 3).map (·.tsn)
theorem lostN_take {ps : List Pc} {i : Nat} {p : Pc} (h : ps[i]? = some p) : lostN (ps.take (i + 1)) = lostN (ps.take i) ++ (if p.state = 3 then [p.tsn] else []) := by
  unfold lostN
  rw [take_succ h, List.filter_append, List.map_append]
  congr 1
  by_cases hp : p.state = 3 <;> simp [hp]
theorem lostN_le (ps : List Pc) : (lostN ps).length ≤ ps.length := by unfold lostN; rw [List.length_map]; exact List.length_filter_le _ _
theorem losses_w (cum : Int) (A : Option Addr) (n c : Nat) (ps : List Pc) (w : World) (hL : Ps w w.heap.size A n ps) (hn : n ≤ 1000000) {V : Nat → Prop} :
    Calls Try.prog 18 #[.agg #[.int .u32 cum, .slice A n c]] w
      fun e w' => ∃ v N, e = .returned v ∧ (∃ A' c', v = .slice A' (lostN ps).length c' ∧ N = [.row A' (lostN ps).length c' 22 1 (flat u32c (lostN ps))]) ∧ New V N w w' := by
  have hl := hL.len
  refine enterW (fun _ => False) _ Try.func18 rfl (by simp only [Try.ntmps18, List.length_cons, List.length_nil, Nat.reduceAdd, Nat.reduceSub]; rfl) ?_
  refine WC.addVw Pc.cs_len hL ?_
  repeat' (first
    | with_reducible refine WL.nil ?_
    | with_reducible refine WQ.thenN ?_
    | with_reducible refine WQ.code ?_
    | with_reducible refine WC.seq ?_
    | with_reducible refine WC.region ?_
    | ((with_reducible refine WL.isN_move ?_); first | refine WL.yld rfl (Yld.pure rfl nrmQ) ?_)
    | ((with_reducible refine WL.isN_assign ?_); first | refine WL.yld rfl (Yld.pure rfl nrmQ) ?_)
    | ((with_reducible refine WL.isN_bin ?_); first | refine WL.yld rfl (Yld.pure rfl nrmQ) ?_ | refine WL.yld rfl (Yld.rem rfl rfl rfl rfl (by omega) (by omega)) ?_ | refine WL.yld rfl (Yld.quo rfl rfl rfl rfl (by omega) (by omega) nrmQ) ?_ | refine WL.yld rfl (Yld.eqlB rfl rfl rfl rfl) ?_ | refine WL.yld rfl (Yld.neqB rfl rfl rfl rfl) ?_ | refine WL.yld rfl (Yld.eqlA 4 rfl rfl rfl (by kernel_rfl) (by kernel_rfl) rfl rfl) ?_ | refine WL.yld rfl (Yld.neqA 4 rfl rfl rfl (by kernel_rfl) (by kernel_rfl) rfl rfl) ?_ | refine WL.yld rfl (Yld.quoT rfl rfl rfl rfl (by omega) nrmQ) ?_)
    | ((with_reducible refine WL.isN_load ?_); first | refine WL.yld rfl (Yld.load rfl rfl rfl rfl cellQ) ?_ | refine WL.yld rfl (Yld.loadAgg rfl rfl rfl rfl rfl aggQ) ?_)
    | ((with_reducible refine WL.isN_faddr ?_); first | refine WL.yld rfl (Yld.fieldAddr rfl rfl rfl rfl rfl rfl rfl) ?_)
    | ((with_reducible refine WL.isN_iaddr ?_); first | refine WL.yld rfl (Yld.indexS 0 rfl rfl rfl rfl rfl rfl (by omega)) ?_ | refine WL.yld rfl (Yld.indexS 1 rfl rfl rfl rfl rfl rfl (by omega)) ?_ | refine WL.yld rfl (Yld.indexS 2 rfl rfl rfl rfl rfl rfl (by omega)) ?_ | refine WL.yld rfl (Yld.indexS _ rfl rfl rfl rfl rfl rfl (by omega)) ?_ | refine WL.yld rfl (Yld.indexA 0 rfl rfl rfl rfl rfl rfl (by omega)) ?_ | refine WL.yld rfl (Yld.indexA 1 rfl rfl rfl rfl rfl rfl (by omega)) ?_ | refine WL.yld rfl (Yld.indexA _ rfl rfl rfl rfl rfl rfl (by omega)) ?_)
    | ((with_reducible refine WL.isN_call ?_); first | refine WL.yld rfl (Yld.lenSlice rfl rfl rfl) ?_ | refine WL.yld rfl (Yld.lenStr rfl rfl rfl) ?_ | refine WL.step rfl (StepTo.append 0 rfl rfl rfl rfl rfl rfl rfl rfl rfl rfl rfl rfl (by first | exact CellsAt.boxAll 0 rfl | exact CellsAt.boxAll 1 rfl | exact CellsAt.boxAll 2 rfl | exact CellsAt.boxAll 3 rfl | exact CellsAt.boxAll 4 rfl) rfl rfl (by omega) (fun _ _ => ⟨_, setQ, ?_⟩)) | refine WL.step rfl (StepTo.append 1 rfl rfl rfl rfl rfl rfl rfl rfl rfl rfl rfl rfl (by first | exact CellsAt.boxAll 0 rfl | exact CellsAt.boxAll 1 rfl | exact CellsAt.boxAll 2 rfl | exact CellsAt.boxAll 3 rfl | exact CellsAt.boxAll 4 rfl) rfl rfl (by omega) (fun _ _ => ⟨_, setQ, ?_⟩)) | refine WL.step rfl (StepTo.append 2 rfl rfl rfl rfl rfl rfl rfl rfl rfl rfl rfl rfl (by first | exact CellsAt.boxAll 0 rfl | exact CellsAt.boxAll 1 rfl | exact CellsAt.boxAll 2 rfl | exact CellsAt.boxAll 3 rfl | exact CellsAt.boxAll 4 rfl) rfl rfl (by omega) (fun _ _ => ⟨_, setQ, ?_⟩)) | refine WL.step rfl (StepTo.append 3 rfl rfl rfl rfl rfl rfl rfl rfl rfl rfl rfl rfl (by first | exact CellsAt.boxAll 0 rfl | exact CellsAt.boxAll 1 rfl | exact CellsAt.boxAll 2 rfl | exact CellsAt.boxAll 3 rfl | exact CellsAt.boxAll 4 rfl) rfl rfl (by omega) (fun _ _ => ⟨_, setQ, ?_⟩)) | refine WL.step rfl (StepTo.append 4 rfl rfl rfl rfl rfl rfl rfl rfl rfl rfl rfl rfl (by first | exact CellsAt.boxAll 0 rfl | exact CellsAt.boxAll 1 rfl | exact CellsAt.boxAll 2 rfl | exact CellsAt.boxAll 3 rfl | exact CellsAt.boxAll 4 rfl) rfl rfl (by omega) (fun _ _ => ⟨_, setQ, ?_⟩)) | refine WL.step rfl (StepTo.append 5 rfl rfl rfl rfl rfl rfl rfl rfl rfl rfl rfl rfl (by first | exact CellsAt.boxAll 0 rfl | exact CellsAt.boxAll 1 rfl | exact CellsAt.boxAll 2 rfl | exact CellsAt.boxAll 3 rfl | exact CellsAt.boxAll 4 rfl) rfl rfl (by omega) (fun _ _ => ⟨_, setQ, ?_⟩)) | refine WL.step rfl (StepTo.append 6 rfl rfl rfl rfl rfl rfl rfl rfl rfl rfl rfl rfl (by first | exact CellsAt.boxAll 0 rfl | exact CellsAt.boxAll 1 rfl | exact CellsAt.boxAll 2 rfl | exact CellsAt.boxAll 3 rfl | exact CellsAt.boxAll 4 rfl) rfl rfl (by omega) (fun _ _ => ⟨_, setQ, ?_⟩)))
    | ((with_reducible refine WL.isN_box ?_); first | refine WL.step rfl (StepTo.boxA rfl rfl rfl rfl (fun _ => ?_)) | refine WL.step rfl (StepTo.box1 rfl rfl rfl rfl rfl (fun _ => ?_)))
    | ((with_reducible refine WL.isN_alloc ?_); first | refine WL.step rfl (StepTo.allocA rfl rfl rfl rfl (fun _ => ?_)) | refine WL.step rfl (StepTo.alloc1 rfl rfl rfl rfl rfl (fun _ => ?_)))
    | ((with_reducible refine WL.isN_store ?_); first | refine WL.step rfl (StepTo.store1 0 rfl rfl rfl rfl rfl rfl rfl overQ setQ ?_) | refine WL.step rfl (StepTo.storeA 0 rfl rfl rfl rfl rfl rfl rfl rfl overQ setQ ?_) | refine WL.step rfl (StepTo.storeRow 0 rfl rfl rfl rfl rfl rfl rfl rfl (by omega) setQ ?_) | refine WL.step rfl (StepTo.store1 1 rfl rfl rfl rfl rfl rfl rfl overQ setQ ?_) | refine WL.step rfl (StepTo.storeA 1 rfl rfl rfl rfl rfl rfl rfl rfl overQ setQ ?_) | refine WL.step rfl (StepTo.storeRow 1 rfl rfl rfl rfl rfl rfl rfl rfl (by omega) setQ ?_) | refine WL.step rfl (StepTo.store1 2 rfl rfl rfl rfl rfl rfl rfl overQ setQ ?_) | refine WL.step rfl (StepTo.storeA 2 rfl rfl rfl rfl rfl rfl rfl rfl overQ setQ ?_) | refine WL.step rfl (StepTo.storeRow 2 rfl rfl rfl rfl rfl rfl rfl rfl (by omega) setQ ?_) | refine WL.step rfl (StepTo.store1 3 rfl rfl rfl rfl rfl rfl rfl overQ setQ ?_) | refine WL.step rfl (StepTo.storeA 3 rfl rfl rfl rfl rfl rfl rfl rfl overQ setQ ?_) | refine WL.step rfl (StepTo.storeRow 3 rfl rfl rfl rfl rfl rfl rfl rfl (by omega) setQ ?_) | refine WL.step rfl (StepTo.store1 4 rfl rfl rfl rfl rfl rfl rfl overQ setQ ?_) | refine WL.step rfl (StepTo.storeA 4 rfl rfl rfl rfl rfl rfl rfl rfl overQ setQ ?_) | refine WL.step rfl (StepTo.storeRow 4 rfl rfl rfl rfl rfl rfl rfl rfl (by omega) setQ ?_) | refine WL.step rfl (StepTo.store1 5 rfl rfl rfl rfl rfl rfl rfl overQ setQ ?_) | refine WL.step rfl (StepTo.storeA 5 rfl rfl rfl rfl rfl rfl rfl rfl overQ setQ ?_) | refine WL.step rfl (StepTo.storeRow 5 rfl rfl rfl rfl rfl rfl rfl rfl (by omega) setQ ?_) | refine WL.step rfl (StepTo.store1 6 rfl rfl rfl rfl rfl rfl rfl overQ setQ ?_) | refine WL.step rfl (StepTo.storeA 6 rfl rfl rfl rfl rfl rfl rfl rfl overQ setQ ?_) | refine WL.step rfl (StepTo.storeRow 6 rfl rfl rfl rfl rfl rfl rfl rfl (by omega) setQ ?_) | refine WL.step rfl (StepTo.store1 7 rfl rfl rfl rfl rfl rfl rfl overQ setQ ?_) | refine WL.step rfl (StepTo.storeA 7 rfl rfl rfl rfl rfl rfl rfl rfl overQ setQ ?_) | refine WL.step rfl (StepTo.storeRow 7 rfl rfl rfl rfl rfl rfl rfl rfl (by omega) setQ ?_) | refine WL.step rfl (StepTo.store1 8 rfl rfl rfl rfl rfl rfl rfl overQ setQ ?_) | refine WL.step rfl (StepTo.storeA 8 rfl rfl rfl rfl rfl rfl rfl rfl overQ setQ ?_) | refine WL.step rfl (StepTo.storeRow 8 rfl rfl rfl rfl rfl rfl rfl rfl (by omega) setQ ?_) | refine WL.step rfl (StepTo.store1 9 rfl rfl rfl rfl rfl rfl rfl overQ setQ ?_) | refine WL.step rfl (StepTo.storeA 9 rfl rfl rfl rfl rfl rfl rfl rfl overQ setQ ?_) | refine WL.step rfl (StepTo.storeRow 9 rfl rfl rfl rfl rfl rfl rfl rfl (by omega) setQ ?_) | refine WL.step rfl (StepTo.store1 10 rfl rfl rfl rfl rfl rfl rfl overQ setQ ?_) | refine WL.step rfl (StepTo.storeA 10 rfl rfl rfl rfl rfl rfl rfl rfl overQ setQ ?_) | refine WL.step rfl (StepTo.storeRow 10 rfl rfl rfl rfl rfl rfl rfl rfl (by omega) setQ ?_) | refine WL.step rfl (StepTo.store1 11 rfl rfl rfl rfl rfl rfl rfl overQ setQ ?_) | refine WL.step rfl (StepTo.storeA 11 rfl rfl rfl rfl rfl rfl rfl rfl overQ setQ ?_) | refine WL.step rfl (StepTo.storeRow 11 rfl rfl rfl rfl rfl rfl rfl rfl (by omega) setQ ?_))
    | ((with_reducible refine WL.isN_bslice ?_); first | refine WL.step rfl (StepTo.buildSlice rfl rfl rfl rfl rfl rfl rfl rfl rfl rfl cellsOfQ (fun _ => ?_)))
    | with_reducible refine WC.block ?_
    | with_reducible refine WC.scope ?_
    | with_reducible refine WC.label ?_
    | with_reducible refine WQ.ngN ?_
    | with_reducible refine WQ.ngR ?_
    | with_reducible refine WQ.ngX ?_
    | with_reducible refine WC.skip ?_
    | with_reducible refine WC.ret ?_
    | with_reducible refine WC.exit ?_
    | with_reducible refine WQ.thenR ?_
    | with_reducible refine WQ.thenX ?_
    | with_reducible refine WQ.blkN ?_
    | with_reducible refine WQ.blkR ?_
    | ((with_reducible refine WQ.blkX ?_ ?_); focus rfl)
    | ((with_reducible refine WQ.blkY ?_ ?_); focus rfl)
    | refine WC.condT rfl ?_
    | refine WC.condF rfl ?_
    | refine WC.condTh rfl gdQ ?_
    | refine WC.condFh rfl gdQ ?_
    | (refine WC.cond rfl (fun hc => ?_) (fun hc => ?_) <;> (try first | (with_reducible replace hc := of_decide_eq_true hc) | (with_reducible replace hc := of_decide_eq_false hc) | (with_reducible replace hc := eqT hc) | (with_reducible replace hc := eqF hc) | (with_reducible replace hc := neT hc) | (with_reducible replace hc := neF hc) | (with_reducible replace hc := noT hc) | (with_reducible replace hc := noF hc)) <;> (try (exfalso; omega))))
  refine WC.nilRow 22 1 ?_
  refine WC.loop (fun mm τ H => ∃ (i m : Nat) (A' : Option Addr) (c' : Nat), i ≤ n ∧ mm = n - i ∧ m = (lostN (ps.take i)).length ∧
      τ = [(3, .slice A' m c'), (7, .slice A n c), (8, .int .i64 n), (9, .int .i64 i)] ∧ H = [.row A' m c' 22 1 (flat u32c (lostN (ps.take i))), .vw A n 7 (flat Pc.cs ps)])
    n _ _ [0, 2] ?_ ?_ ⟨0, 0, none, 0, by omega, rfl, rfl, rfl, rfl⟩ ?_
  · exact (by repeat (first | exact Sub.nil | refine Sub.cons rfl ?_ | refine Sub.consE rfl (int_eq (by omega)) ?_))
  · exact ⟨by decide, rfl⟩
  rintro mm τ H ⟨i, m, A', c', hi, rfl, hmm, rfl, rfl⟩
  by_cases hlt : i < n
  · obtain ⟨p, hp⟩ : ∃ p, ps[i]? = some p := ⟨_, List.getElem?_eq_getElem (by omega)⟩
    have hpp : PartAt (flat Pc.cs ps) (i * 7) p.cs := PartAt.flat Pc.cs_len hp
    have hle := lostN_le (ps.take i)
    rw [List.length_take] at hle
    have ht := lostN_take hp
    refine WC.vwAt 1 rfl (by omega) fun b off hA => ?_
    subst hA
    by_cases hst : p.state = 3
    · rw [if_pos hst] at ht
      repeat' (first
    | with_reducible refine WL.nil ?_
    | with_reducible refine WQ.thenN ?_
    | with_reducible refine WQ.code ?_
    | with_reducible refine WC.seq ?_
    | with_reducible refine WC.region ?_
    | ((with_reducible refine WL.isN_move ?_); first | refine WL.yld rfl (Yld.pure rfl nrmQ) ?_)
    | ((with_reducible refine WL.isN_assign ?_); first | refine WL.yld rfl (Yld.pure rfl nrmQ) ?_)
    | ((with_reducible refine WL.isN_bin ?_); first | refine WL.yld rfl (Yld.pure rfl nrmQ) ?_ | refine WL.yld rfl (Yld.rem rfl rfl rfl rfl (by omega) (by omega)) ?_ | refine WL.yld rfl (Yld.quo rfl rfl rfl rfl (by omega) (by omega) nrmQ) ?_ | refine WL.yld rfl (Yld.eqlB rfl rfl rfl rfl) ?_ | refine WL.yld rfl (Yld.neqB rfl rfl rfl rfl) ?_ | refine WL.yld rfl (Yld.eqlA 4 rfl rfl rfl (by kernel_rfl) (by kernel_rfl) rfl rfl) ?_ | refine WL.yld rfl (Yld.neqA 4 rfl rfl rfl (by kernel_rfl) (by kernel_rfl) rfl rfl) ?_ | refine WL.yld rfl (Yld.quoT rfl rfl rfl rfl (by omega) nrmQ) ?_)
    | ((with_reducible refine WL.isN_load ?_); first | refine WL.yld rfl (Yld.load rfl rfl rfl rfl cellQ) ?_ | refine WL.yld rfl (Yld.loadAgg rfl rfl rfl rfl rfl aggQ) ?_)
    | ((with_reducible refine WL.isN_faddr ?_); first | refine WL.yld rfl (Yld.fieldAddr rfl rfl rfl rfl rfl rfl rfl) ?_)
    | ((with_reducible refine WL.isN_iaddr ?_); first | refine WL.yld rfl (Yld.indexS 0 rfl rfl rfl rfl rfl rfl (by omega)) ?_ | refine WL.yld rfl (Yld.indexS 1 rfl rfl rfl rfl rfl rfl (by omega)) ?_ | refine WL.yld rfl (Yld.indexS 2 rfl rfl rfl rfl rfl rfl (by omega)) ?_ | refine WL.yld rfl (Yld.indexS _ rfl rfl rfl rfl rfl rfl (by omega)) ?_ | refine WL.yld rfl (Yld.indexA 0 rfl rfl rfl rfl rfl rfl (by omega)) ?_ | refine WL.yld rfl (Yld.indexA 1 rfl rfl rfl rfl rfl rfl (by omega)) ?_ | refine WL.yld rfl (Yld.indexA _ rfl rfl rfl rfl rfl rfl (by omega)) ?_)
    | ((with_reducible refine WL.isN_call ?_); first | refine WL.step rfl (StepTo.appendTo 2 (flat u32c (lostN (ps.take (i + 1)))) rfl rfl rfl rfl rfl rfl rfl rfl rfl rfl rfl rfl (CellsAt.boxAll 0 rfl) rfl rfl (by omega) (by rw [ht, flat_snoc]; rfl) (fun _ _ => ⟨_, setQ, ?_⟩)) | refine WL.yld rfl (Yld.lenSlice rfl rfl rfl) ?_ | refine WL.yld rfl (Yld.lenStr rfl rfl rfl) ?_ | refine WL.step rfl (StepTo.append 0 rfl rfl rfl rfl rfl rfl rfl rfl rfl rfl rfl rfl (by first | exact CellsAt.boxAll 0 rfl | exact CellsAt.boxAll 1 rfl | exact CellsAt.boxAll 2 rfl | exact CellsAt.boxAll 3 rfl | exact CellsAt.boxAll 4 rfl) rfl rfl (by omega) (fun _ _ => ⟨_, setQ, ?_⟩)) | refine WL.step rfl (StepTo.append 1 rfl rfl rfl rfl rfl rfl rfl rfl rfl rfl rfl rfl (by first | exact CellsAt.boxAll 0 rfl | exact CellsAt.boxAll 1 rfl | exact CellsAt.boxAll 2 rfl | exact CellsAt.boxAll 3 rfl | exact CellsAt.boxAll 4 rfl) rfl rfl (by omega) (fun _ _ => ⟨_, setQ, ?_⟩)) | refine WL.step rfl (StepTo.append 2 rfl rfl rfl rfl rfl rfl rfl rfl rfl rfl rfl rfl (by first | exact CellsAt.boxAll 0 rfl | exact CellsAt.boxAll 1 rfl | exact CellsAt.boxAll 2 rfl | exact CellsAt.boxAll 3 rfl | exact CellsAt.boxAll 4 rfl) rfl rfl (by omega) (fun _ _ => ⟨_, setQ, ?_⟩)) | refine WL.step rfl (StepTo.append 3 rfl rfl rfl rfl rfl rfl rfl rfl rfl rfl rfl rfl (by first | exact CellsAt.boxAll 0 rfl | exact CellsAt.boxAll 1 rfl | exact CellsAt.boxAll 2 rfl | exact CellsAt.boxAll 3 rfl | exact CellsAt.boxAll 4 rfl) rfl rfl (by omega) (fun _ _ => ⟨_, setQ, ?_⟩)) | refine WL.step rfl (StepTo.append 4 rfl rfl rfl rfl rfl rfl rfl rfl rfl rfl rfl rfl (by first | exact CellsAt.boxAll 0 rfl | exact CellsAt.boxAll 1 rfl | exact CellsAt.boxAll 2 rfl | exact CellsAt.boxAll 3 rfl | exact CellsAt.boxAll 4 rfl) rfl rfl (by omega) (fun _ _ => ⟨_, setQ, ?_⟩)) | refine WL.step rfl (StepTo.append 5 rfl rfl rfl rfl rfl rfl rfl rfl rfl rfl rfl rfl (by first | exact CellsAt.boxAll 0 rfl | exact CellsAt.boxAll 1 rfl | exact CellsAt.boxAll 2 rfl | exact CellsAt.boxAll 3 rfl | exact CellsAt.boxAll 4 rfl) rfl rfl (by omega) (fun _ _ => ⟨_, setQ, ?_⟩)) | refine WL.step rfl (StepTo.append 6 rfl rfl rfl rfl rfl rfl rfl rfl rfl rfl rfl rfl (by first | exact CellsAt.boxAll 0 rfl | exact CellsAt.boxAll 1 rfl | exact CellsAt.boxAll 2 rfl | exact CellsAt.boxAll 3 rfl | exact CellsAt.boxAll 4 rfl) rfl rfl (by omega) (fun _ _ => ⟨_, setQ, ?_⟩)))
    | ((with_reducible refine WL.isN_box ?_); first | refine WL.step rfl (StepTo.boxA rfl rfl rfl rfl (fun _ => ?_)) | refine WL.step rfl (StepTo.box1 rfl rfl rfl rfl rfl (fun _ => ?_)))
    | ((with_reducible refine WL.isN_alloc ?_); first | refine WL.step rfl (StepTo.allocA rfl rfl rfl rfl (fun _ => ?_)) | refine WL.step rfl (StepTo.alloc1 rfl rfl rfl rfl rfl (fun _ => ?_)))
    | ((with_reducible refine WL.isN_store ?_); first | refine WL.step rfl (StepTo.store1 0 rfl rfl rfl rfl rfl rfl rfl overQ setQ ?_) | refine WL.step rfl (StepTo.storeA 0 rfl rfl rfl rfl rfl rfl rfl rfl overQ setQ ?_) | refine WL.step rfl (StepTo.storeRow 0 rfl rfl rfl rfl rfl rfl rfl rfl (by omega) setQ ?_) | refine WL.step rfl (StepTo.store1 1 rfl rfl rfl rfl rfl rfl rfl overQ setQ ?_) | refine WL.step rfl (StepTo.storeA 1 rfl rfl rfl rfl rfl rfl rfl rfl overQ setQ ?_) | refine WL.step rfl (StepTo.storeRow 1 rfl rfl rfl rfl rfl rfl rfl rfl (by omega) setQ ?_) | refine WL.step rfl (StepTo.store1 2 rfl rfl rfl rfl rfl rfl rfl overQ setQ ?_) | refine WL.step rfl (StepTo.storeA 2 rfl rfl rfl rfl rfl rfl rfl rfl overQ setQ ?_) | refine WL.step rfl (StepTo.storeRow 2 rfl rfl rfl rfl rfl rfl rfl rfl (by omega) setQ ?_) | refine WL.step rfl (StepTo.store1 3 rfl rfl rfl rfl rfl rfl rfl overQ setQ ?_) | refine WL.step rfl (StepTo.storeA 3 rfl rfl rfl rfl rfl rfl rfl rfl overQ setQ ?_) | refine WL.step rfl (StepTo.storeRow 3 rfl rfl rfl rfl rfl rfl rfl rfl (by omega) setQ ?_) | refine WL.step rfl (StepTo.store1 4 rfl rfl rfl rfl rfl rfl rfl overQ setQ ?_) | refine WL.step rfl (StepTo.storeA 4 rfl rfl rfl rfl rfl rfl rfl rfl overQ setQ ?_) | refine WL.step rfl (StepTo.storeRow 4 rfl rfl rfl rfl rfl rfl rfl rfl (by omega) setQ ?_) | refine WL.step rfl (StepTo.store1 5 rfl rfl rfl rfl rfl rfl rfl overQ setQ ?_) | refine WL.step rfl (StepTo.storeA 5 rfl rfl rfl rfl rfl rfl rfl rfl overQ setQ ?_) | refine WL.step rfl (StepTo.storeRow 5 rfl rfl rfl rfl rfl rfl rfl rfl (by omega) setQ ?_) | refine WL.step rfl (StepTo.store1 6 rfl rfl rfl rfl rfl rfl rfl overQ setQ ?_) | refine WL.step rfl (StepTo.storeA 6 rfl rfl rfl rfl rfl rfl rfl rfl overQ setQ ?_) | refine WL.step rfl (StepTo.storeRow 6 rfl rfl rfl rfl rfl rfl rfl rfl (by omega) setQ ?_) | refine WL.step rfl (StepTo.store1 7 rfl rfl rfl rfl rfl rfl rfl overQ setQ ?_) | refine WL.step rfl (StepTo.storeA 7 rfl rfl rfl rfl rfl rfl rfl rfl overQ setQ ?_) | refine WL.step rfl (StepTo.storeRow 7 rfl rfl rfl rfl rfl rfl rfl rfl (by omega) setQ ?_) | refine WL.step rfl (StepTo.store1 8 rfl rfl rfl rfl rfl rfl rfl overQ setQ ?_) | refine WL.step rfl (StepTo.storeA 8 rfl rfl rfl rfl rfl rfl rfl rfl overQ setQ ?_) | refine WL.step rfl (StepTo.storeRow 8 rfl rfl rfl rfl rfl rfl rfl rfl (by omega) setQ ?_) | refine WL.step rfl (StepTo.store1 9 rfl rfl rfl rfl rfl rfl rfl overQ setQ ?_) | refine WL.step rfl (StepTo.storeA 9 rfl rfl rfl rfl rfl rfl rfl rfl overQ setQ ?_) | refine WL.step rfl (StepTo.storeRow 9 rfl rfl rfl rfl rfl rfl rfl rfl (by omega) setQ ?_) | refine WL.step rfl (StepTo.store1 10 rfl rfl rfl rfl rfl rfl rfl overQ setQ ?_) | refine WL.step rfl (StepTo.storeA 10 rfl rfl rfl rfl rfl rfl rfl rfl overQ setQ ?_) | refine WL.step rfl (StepTo.storeRow 10 rfl rfl rfl rfl rfl rfl rfl rfl (by omega) setQ ?_) | refine WL.step rfl (StepTo.store1 11 rfl rfl rfl rfl rfl rfl rfl overQ setQ ?_) | refine WL.step rfl (StepTo.storeA 11 rfl rfl rfl rfl rfl rfl rfl rfl overQ setQ ?_) | refine WL.step rfl (StepTo.storeRow 11 rfl rfl rfl rfl rfl rfl rfl rfl (by omega) setQ ?_))
    | ((with_reducible refine WL.isN_bslice ?_); first | refine WL.step rfl (StepTo.buildSlice rfl rfl rfl rfl rfl rfl rfl rfl rfl rfl cellsOfQ (fun _ => ?_)))
    | with_reducible refine WC.block ?_
    | with_reducible refine WC.scope ?_
    | with_reducible refine WC.label ?_
    | with_reducible refine WQ.ngN ?_
    | with_reducible refine WQ.ngR ?_
    | with_reducible refine WQ.ngX ?_
    | with_reducible refine WC.skip ?_
    | with_reducible refine WC.ret ?_
    | with_reducible refine WC.exit ?_
    | with_reducible refine WQ.thenR ?_
    | with_reducible refine WQ.thenX ?_
    | with_reducible refine WQ.blkN ?_
    | with_reducible refine WQ.blkR ?_
    | ((with_reducible refine WQ.blkX ?_ ?_); focus rfl)
    | ((with_reducible refine WQ.blkY ?_ ?_); focus rfl)
    | refine WC.condT rfl ?_
    | refine WC.condF rfl ?_
    | refine WC.condTh rfl gdQ ?_
    | refine WC.condFh rfl gdQ ?_
    | (refine WC.cond rfl (fun hc => ?_) (fun hc => ?_) <;> (try first | (with_reducible replace hc := of_decide_eq_true hc) | (with_reducible replace hc := of_decide_eq_false hc) | (with_reducible replace hc := eqT hc) | (with_reducible replace hc := eqF hc) | (with_reducible replace hc := neT hc) | (with_reducible replace hc := neF hc) | (with_reducible replace hc := noT hc) | (with_reducible replace hc := noF hc)) <;> (try (exfalso; omega))))
      exact WQ.rnd (n - (i + 1)) _ _ [2, 3] (by repeat (first | exact Sub.nil | refine Sub.cons rfl ?_ | refine Sub.consE rfl (int_eq (by omega)) ?_)) ⟨by decide, rfl⟩ (by omega) ⟨i + 1, m + 1, _, _, by omega, rfl, by rw [ht, hmm, List.length_append]; rfl, rfl, rfl⟩
    · rw [if_neg hst, List.append_nil] at ht
      repeat' (first
    | with_reducible refine WL.nil ?_
    | with_reducible refine WQ.thenN ?_
    | with_reducible refine WQ.code ?_
    | with_reducible refine WC.seq ?_
    | with_reducible refine WC.region ?_
    | ((with_reducible refine WL.isN_move ?_); first | refine WL.yld rfl (Yld.pure rfl nrmQ) ?_)
    | ((with_reducible refine WL.isN_assign ?_); first | refine WL.yld rfl (Yld.pure rfl nrmQ) ?_)
    | ((with_reducible refine WL.isN_bin ?_); first | refine WL.yld rfl (Yld.pure rfl nrmQ) ?_ | refine WL.yld rfl (Yld.rem rfl rfl rfl rfl (by omega) (by omega)) ?_ | refine WL.yld rfl (Yld.quo rfl rfl rfl rfl (by omega) (by omega) nrmQ) ?_ | refine WL.yld rfl (Yld.eqlB rfl rfl rfl rfl) ?_ | refine WL.yld rfl (Yld.neqB rfl rfl rfl rfl) ?_ | refine WL.yld rfl (Yld.eqlA 4 rfl rfl rfl (by kernel_rfl) (by kernel_rfl) rfl rfl) ?_ | refine WL.yld rfl (Yld.neqA 4 rfl rfl rfl (by kernel_rfl) (by kernel_rfl) rfl rfl) ?_ | refine WL.yld rfl (Yld.quoT rfl rfl rfl rfl (by omega) nrmQ) ?_)
    | ((with_reducible refine WL.isN_load ?_); first | refine WL.yld rfl (Yld.load rfl rfl rfl rfl cellQ) ?_ | refine WL.yld rfl (Yld.loadAgg rfl rfl rfl rfl rfl aggQ) ?_)
    | ((with_reducible refine WL.isN_faddr ?_); first | refine WL.yld rfl (Yld.fieldAddr rfl rfl rfl rfl rfl rfl rfl) ?_)
    | ((with_reducible refine WL.isN_iaddr ?_); first | refine WL.yld rfl (Yld.indexS 0 rfl rfl rfl rfl rfl rfl (by omega)) ?_ | refine WL.yld rfl (Yld.indexS 1 rfl rfl rfl rfl rfl rfl (by omega)) ?_ | refine WL.yld rfl (Yld.indexS 2 rfl rfl rfl rfl rfl rfl (by omega)) ?_ | refine WL.yld rfl (Yld.indexS _ rfl rfl rfl rfl rfl rfl (by omega)) ?_ | refine WL.yld rfl (Yld.indexA 0 rfl rfl rfl rfl rfl rfl (by omega)) ?_ | refine WL.yld rfl (Yld.indexA 1 rfl rfl rfl rfl rfl rfl (by omega)) ?_ | refine WL.yld rfl (Yld.indexA _ rfl rfl rfl rfl rfl rfl (by omega)) ?_)
    | ((with_reducible refine WL.isN_call ?_); first | refine WL.yld rfl (Yld.lenSlice rfl rfl rfl) ?_ | refine WL.yld rfl (Yld.lenStr rfl rfl rfl) ?_ | refine WL.step rfl (StepTo.append 0 rfl rfl rfl rfl rfl rfl rfl rfl rfl rfl rfl rfl (by first | exact CellsAt.boxAll 0 rfl | exact CellsAt.boxAll 1 rfl | exact CellsAt.boxAll 2 rfl | exact CellsAt.boxAll 3 rfl | exact CellsAt.boxAll 4 rfl) rfl rfl (by omega) (fun _ _ => ⟨_, setQ, ?_⟩)) | refine WL.step rfl (StepTo.append 1 rfl rfl rfl rfl rfl rfl rfl rfl rfl rfl rfl rfl (by first | exact CellsAt.boxAll 0 rfl | exact CellsAt.boxAll 1 rfl | exact CellsAt.boxAll 2 rfl | exact CellsAt.boxAll 3 rfl | exact CellsAt.boxAll 4 rfl) rfl rfl (by omega) (fun _ _ => ⟨_, setQ, ?_⟩)) | refine WL.step rfl (StepTo.append 2 rfl rfl rfl rfl rfl rfl rfl rfl rfl rfl rfl rfl (by first | exact CellsAt.boxAll 0 rfl | exact CellsAt.boxAll 1 rfl | exact CellsAt.boxAll 2 rfl | exact CellsAt.boxAll 3 rfl | exact CellsAt.boxAll 4 rfl) rfl rfl (by omega) (fun _ _ => ⟨_, setQ, ?_⟩)) | refine WL.step rfl (StepTo.append 3 rfl rfl rfl rfl rfl rfl rfl rfl rfl rfl rfl rfl (by first | exact CellsAt.boxAll 0 rfl | exact CellsAt.boxAll 1 rfl | exact CellsAt.boxAll 2 rfl | exact CellsAt.boxAll 3 rfl | exact CellsAt.boxAll 4 rfl) rfl rfl (by omega) (fun _ _ => ⟨_, setQ, ?_⟩)) | refine WL.step rfl (StepTo.append 4 rfl rfl rfl rfl rfl rfl rfl rfl rfl rfl rfl rfl (by first | exact CellsAt.boxAll 0 rfl | exact CellsAt.boxAll 1 rfl | exact CellsAt.boxAll 2 rfl | exact CellsAt.boxAll 3 rfl | exact CellsAt.boxAll 4 rfl) rfl rfl (by omega) (fun _ _ => ⟨_, setQ, ?_⟩)) | refine WL.step rfl (StepTo.append 5 rfl rfl rfl rfl rfl rfl rfl rfl rfl rfl rfl rfl (by first | exact CellsAt.boxAll 0 rfl | exact CellsAt.boxAll 1 rfl | exact CellsAt.boxAll 2 rfl | exact CellsAt.boxAll 3 rfl | exact CellsAt.boxAll 4 rfl) rfl rfl (by omega) (fun _ _ => ⟨_, setQ, ?_⟩)) | refine WL.step rfl (StepTo.append 6 rfl rfl rfl rfl rfl rfl rfl rfl rfl rfl rfl rfl (by first | exact CellsAt.boxAll 0 rfl | exact CellsAt.boxAll 1 rfl | exact CellsAt.boxAll 2 rfl | exact CellsAt.boxAll 3 rfl | exact CellsAt.boxAll 4 rfl) rfl rfl (by omega) (fun _ _ => ⟨_, setQ, ?_⟩)))
    | ((with_reducible refine WL.isN_box ?_); first | refine WL.step rfl (StepTo.boxA rfl rfl rfl rfl (fun _ => ?_)) | refine WL.step rfl (StepTo.box1 rfl rfl rfl rfl rfl (fun _ => ?_)))
    | ((with_reducible refine WL.isN_alloc ?_); first | refine WL.step rfl (StepTo.allocA rfl rfl rfl rfl (fun _ => ?_)) | refine WL.step rfl (StepTo.alloc1 rfl rfl rfl rfl rfl (fun _ => ?_)))
    | ((with_reducible refine WL.isN_store ?_); first | refine WL.step rfl (StepTo.store1 0 rfl rfl rfl rfl rfl rfl rfl overQ setQ ?_) | refine WL.step rfl (StepTo.storeA 0 rfl rfl rfl rfl rfl rfl rfl rfl overQ setQ ?_) | refine WL.step rfl (StepTo.storeRow 0 rfl rfl rfl rfl rfl rfl rfl rfl (by omega) setQ ?_) | refine WL.step rfl (StepTo.store1 1 rfl rfl rfl rfl rfl rfl rfl overQ setQ ?_) | refine WL.step rfl (StepTo.storeA 1 rfl rfl rfl rfl rfl rfl rfl rfl overQ setQ ?_) | refine WL.step rfl (StepTo.storeRow 1 rfl rfl rfl rfl rfl rfl rfl rfl (by omega) setQ ?_) | refine WL.step rfl (StepTo.store1 2 rfl rfl rfl rfl rfl rfl rfl overQ setQ ?_) | refine WL.step rfl (StepTo.storeA 2 rfl rfl rfl rfl rfl rfl rfl rfl overQ setQ ?_) | refine WL.step rfl (StepTo.storeRow 2 rfl rfl rfl rfl rfl rfl rfl rfl (by omega) setQ ?_) | refine WL.step rfl (StepTo.store1 3 rfl rfl rfl rfl rfl rfl rfl overQ setQ ?_) | refine WL.step rfl (StepTo.storeA 3 rfl rfl rfl rfl rfl rfl rfl rfl overQ setQ ?_) | refine WL.step rfl (StepTo.storeRow 3 rfl rfl rfl rfl rfl rfl rfl rfl (by omega) setQ ?_) | refine WL.step rfl (StepTo.store1 4 rfl rfl rfl rfl rfl rfl rfl overQ setQ ?_) | refine WL.step rfl (StepTo.storeA 4 rfl rfl rfl rfl rfl rfl rfl rfl overQ setQ ?_) | refine WL.step rfl (StepTo.storeRow 4 rfl rfl rfl rfl rfl rfl rfl rfl (by omega) setQ ?_) | refine WL.step rfl (StepTo.store1 5 rfl rfl rfl rfl rfl rfl rfl overQ setQ ?_) | refine WL.step rfl (StepTo.storeA 5 rfl rfl rfl rfl rfl rfl rfl rfl overQ setQ ?_) | refine WL.step rfl (StepTo.storeRow 5 rfl rfl rfl rfl rfl rfl rfl rfl (by omega) setQ ?_) | refine WL.step rfl (StepTo.store1 6 rfl rfl rfl rfl rfl rfl rfl overQ setQ ?_) | refine WL.step rfl (StepTo.storeA 6 rfl rfl rfl rfl rfl rfl rfl rfl overQ setQ ?_) | refine WL.step rfl (StepTo.storeRow 6 rfl rfl rfl rfl rfl rfl rfl rfl (by omega) setQ ?_) | refine WL.step rfl (StepTo.store1 7 rfl rfl rfl rfl rfl rfl rfl overQ setQ ?_) | refine WL.step rfl (StepTo.storeA 7 rfl rfl rfl rfl rfl rfl rfl rfl overQ setQ ?_) | refine WL.step rfl (StepTo.storeRow 7 rfl rfl rfl rfl rfl rfl rfl rfl (by omega) setQ ?_) | refine WL.step rfl (StepTo.store1 8 rfl rfl rfl rfl rfl rfl rfl overQ setQ ?_) | refine WL.step rfl (StepTo.storeA 8 rfl rfl rfl rfl rfl rfl rfl rfl overQ setQ ?_) | refine WL.step rfl (StepTo.storeRow 8 rfl rfl rfl rfl rfl rfl rfl rfl (by omega) setQ ?_) | refine WL.step rfl (StepTo.store1 9 rfl rfl rfl rfl rfl rfl rfl overQ setQ ?_) | refine WL.step rfl (StepTo.storeA 9 rfl rfl rfl rfl rfl rfl rfl rfl overQ setQ ?_) | refine WL.step rfl (StepTo.storeRow 9 rfl rfl rfl rfl rfl rfl rfl rfl (by omega) setQ ?_) | refine WL.step rfl (StepTo.store1 10 rfl rfl rfl rfl rfl rfl rfl overQ setQ ?_) | refine WL.step rfl (StepTo.storeA 10 rfl rfl rfl rfl rfl rfl rfl rfl overQ setQ ?_) | refine WL.step rfl (StepTo.storeRow 10 rfl rfl rfl rfl rfl rfl rfl rfl (by omega) setQ ?_) | refine WL.step rfl (StepTo.store1 11 rfl rfl rfl rfl rfl rfl rfl overQ setQ ?_) | refine WL.step rfl (StepTo.storeA 11 rfl rfl rfl rfl rfl rfl rfl rfl overQ setQ ?_) | refine WL.step rfl (StepTo.storeRow 11 rfl rfl rfl rfl rfl rfl rfl rfl (by omega) setQ ?_))
    | ((with_reducible refine WL.isN_bslice ?_); first | refine WL.step rfl (StepTo.buildSlice rfl rfl rfl rfl rfl rfl rfl rfl rfl rfl cellsOfQ (fun _ => ?_)))
    | with_reducible refine WC.block ?_
    | with_reducible refine WC.scope ?_
    | with_reducible refine WC.label ?_
    | with_reducible refine WQ.ngN ?_
    | with_reducible refine WQ.ngR ?_
    | with_reducible refine WQ.ngX ?_
    | with_reducible refine WC.skip ?_
    | with_reducible refine WC.ret ?_
    | with_reducible refine WC.exit ?_
    | with_reducible refine WQ.thenR ?_
    | with_reducible refine WQ.thenX ?_
    | with_reducible refine WQ.blkN ?_
    | with_reducible refine WQ.blkR ?_
    | ((with_reducible refine WQ.blkX ?_ ?_); focus rfl)
    | ((with_reducible refine WQ.blkY ?_ ?_); focus rfl)
    | refine WC.condT rfl ?_
    | refine WC.condF rfl ?_
    | refine WC.condTh rfl gdQ ?_
    | refine WC.condFh rfl gdQ ?_
    | (refine WC.cond rfl (fun hc => ?_) (fun hc => ?_) <;> (try first | (with_reducible replace hc := of_decide_eq_true hc) | (with_reducible replace hc := of_decide_eq_false hc) | (with_reducible replace hc := eqT hc) | (with_reducible replace hc := eqF hc) | (with_reducible replace hc := neT hc) | (with_reducible replace hc := neF hc) | (with_reducible replace hc := noT hc) | (with_reducible replace hc := noF hc)) <;> (try (exfalso; omega))))
      rw [← ht]
      exact WQ.rnd (n - (i + 1)) _ _ [1, 2] (by repeat (first | exact Sub.nil | refine Sub.cons rfl ?_ | refine Sub.consE rfl (int_eq (by omega)) ?_)) ⟨by decide, rfl⟩ (by omega) ⟨i + 1, m, A', c', by omega, rfl, by rw [ht, hmm], rfl, rfl⟩
  · have hti : ps.take i = ps := List.take_of_length_le (by omega)
    rw [hti]
    rw [hti] at hmm
    subst hmm
    repeat' (first
    | with_reducible refine WL.nil ?_
    | with_reducible refine WQ.thenN ?_
    | with_reducible refine WQ.code ?_
    | with_reducible refine WC.seq ?_
    | with_reducible refine WC.region ?_
    | ((with_reducible refine WL.isN_move ?_); first | refine WL.yld rfl (Yld.pure rfl nrmQ) ?_)
    | ((with_reducible refine WL.isN_assign ?_); first | refine WL.yld rfl (Yld.pure rfl nrmQ) ?_)
    | ((with_reducible refine WL.isN_bin ?_); first | refine WL.yld rfl (Yld.pure rfl nrmQ) ?_ | refine WL.yld rfl (Yld.rem rfl rfl rfl rfl (by omega) (by omega)) ?_ | refine WL.yld rfl (Yld.quo rfl rfl rfl rfl (by omega) (by omega) nrmQ) ?_ | refine WL.yld rfl (Yld.eqlB rfl rfl rfl rfl) ?_ | refine WL.yld rfl (Yld.neqB rfl rfl rfl rfl) ?_ | refine WL.yld rfl (Yld.eqlA 4 rfl rfl rfl (by kernel_rfl) (by kernel_rfl) rfl rfl) ?_ | refine WL.yld rfl (Yld.neqA 4 rfl rfl rfl (by kernel_rfl) (by kernel_rfl) rfl rfl) ?_ | refine WL.yld rfl (Yld.quoT rfl rfl rfl rfl (by omega) nrmQ) ?_)
    | ((with_reducible refine WL.isN_load ?_); first | refine WL.yld rfl (Yld.load rfl rfl rfl rfl cellQ) ?_ | refine WL.yld rfl (Yld.loadAgg rfl rfl rfl rfl rfl aggQ) ?_)
    | ((with_reducible refine WL.isN_faddr ?_); first | refine WL.yld rfl (Yld.fieldAddr rfl rfl rfl rfl rfl rfl rfl) ?_)
    | ((with_reducible refine WL.isN_iaddr ?_); first | refine WL.yld rfl (Yld.indexS 0 rfl rfl rfl rfl rfl rfl (by omega)) ?_ | refine WL.yld rfl (Yld.indexS 1 rfl rfl rfl rfl rfl rfl (by omega)) ?_ | refine WL.yld rfl (Yld.indexS 2 rfl rfl rfl rfl rfl rfl (by omega)) ?_ | refine WL.yld rfl (Yld.indexS _ rfl rfl rfl rfl rfl rfl (by omega)) ?_ | refine WL.yld rfl (Yld.indexA 0 rfl rfl rfl rfl rfl rfl (by omega)) ?_ | refine WL.yld rfl (Yld.indexA 1 rfl rfl rfl rfl rfl rfl (by omega)) ?_ | refine WL.yld rfl (Yld.indexA _ rfl rfl rfl rfl rfl rfl (by omega)) ?_)
    | ((with_reducible refine WL.isN_call ?_); first | refine WL.yld rfl (Yld.lenSlice rfl rfl rfl) ?_ | refine WL.yld rfl (Yld.lenStr rfl rfl rfl) ?_ | refine WL.step rfl (StepTo.append 0 rfl rfl rfl rfl rfl rfl rfl rfl rfl rfl rfl rfl (by first | exact CellsAt.boxAll 0 rfl | exact CellsAt.boxAll 1 rfl | exact CellsAt.boxAll 2 rfl | exact CellsAt.boxAll 3 rfl | exact CellsAt.boxAll 4 rfl) rfl rfl (by omega) (fun _ _ => ⟨_, setQ, ?_⟩)) | refine WL.step rfl (StepTo.append 1 rfl rfl rfl rfl rfl rfl rfl rfl rfl rfl rfl rfl (by first | exact CellsAt.boxAll 0 rfl | exact CellsAt.boxAll 1 rfl | exact CellsAt.boxAll 2 rfl | exact CellsAt.boxAll 3 rfl | exact CellsAt.boxAll 4 rfl) rfl rfl (by omega) (fun _ _ => ⟨_, setQ, ?_⟩)) | refine WL.step rfl (StepTo.append 2 rfl rfl rfl rfl rfl rfl rfl rfl rfl rfl rfl rfl (by first | exact CellsAt.boxAll 0 rfl | exact CellsAt.boxAll 1 rfl | exact CellsAt.boxAll 2 rfl | exact CellsAt.boxAll 3 rfl | exact CellsAt.boxAll 4 rfl) rfl rfl (by omega) (fun _ _ => ⟨_, setQ, ?_⟩)) | refine WL.step rfl (StepTo.append 3 rfl rfl rfl rfl rfl rfl rfl rfl rfl rfl rfl rfl (by first | exact CellsAt.boxAll 0 rfl | exact CellsAt.boxAll 1 rfl | exact CellsAt.boxAll 2 rfl | exact CellsAt.boxAll 3 rfl | exact CellsAt.boxAll 4 rfl) rfl rfl (by omega) (fun _ _ => ⟨_, setQ, ?_⟩)) | refine WL.step rfl (StepTo.append 4 rfl rfl rfl rfl rfl rfl rfl rfl rfl rfl rfl rfl (by first | exact CellsAt.boxAll 0 rfl | exact CellsAt.boxAll 1 rfl | exact CellsAt.boxAll 2 rfl | exact CellsAt.boxAll 3 rfl | exact CellsAt.boxAll 4 rfl) rfl rfl (by omega) (fun _ _ => ⟨_, setQ, ?_⟩)) | refine WL.step rfl (StepTo.append 5 rfl rfl rfl rfl rfl rfl rfl rfl rfl rfl rfl rfl (by first | exact CellsAt.boxAll 0 rfl | exact CellsAt.boxAll 1 rfl | exact CellsAt.boxAll 2 rfl | exact CellsAt.boxAll 3 rfl | exact CellsAt.boxAll 4 rfl) rfl rfl (by omega) (fun _ _ => ⟨_, setQ, ?_⟩)) | refine WL.step rfl (StepTo.append 6 rfl rfl rfl rfl rfl rfl rfl rfl rfl rfl rfl rfl (by first | exact CellsAt.boxAll 0 rfl | exact CellsAt.boxAll 1 rfl | exact CellsAt.boxAll 2 rfl | exact CellsAt.boxAll 3 rfl | exact CellsAt.boxAll 4 rfl) rfl rfl (by omega) (fun _ _ => ⟨_, setQ, ?_⟩)))
    | ((with_reducible refine WL.isN_box ?_); first | refine WL.step rfl (StepTo.boxA rfl rfl rfl rfl (fun _ => ?_)) | refine WL.step rfl (StepTo.box1 rfl rfl rfl rfl rfl (fun _ => ?_)))
    | ((with_reducible refine WL.isN_alloc ?_); first | refine WL.step rfl (StepTo.allocA rfl rfl rfl rfl (fun _ => ?_)) | refine WL.step rfl (StepTo.alloc1 rfl rfl rfl rfl rfl (fun _ => ?_)))
    | ((with_reducible refine WL.isN_store ?_); first | refine WL.step rfl (StepTo.store1 0 rfl rfl rfl rfl rfl rfl rfl overQ setQ ?_) | refine WL.step rfl (StepTo.storeA 0 rfl rfl rfl rfl rfl rfl rfl rfl overQ setQ ?_) | refine WL.step rfl (StepTo.storeRow 0 rfl rfl rfl rfl rfl rfl rfl rfl (by omega) setQ ?_) | refine WL.step rfl (StepTo.store1 1 rfl rfl rfl rfl rfl rfl rfl overQ setQ ?_) | refine WL.step rfl (StepTo.storeA 1 rfl rfl rfl rfl rfl rfl rfl rfl overQ setQ ?_) | refine WL.step rfl (StepTo.storeRow 1 rfl rfl rfl rfl rfl rfl rfl rfl (by omega) setQ ?_) | refine WL.step rfl (StepTo.store1 2 rfl rfl rfl rfl rfl rfl rfl overQ setQ ?_) | refine WL.step rfl (StepTo.storeA 2 rfl rfl rfl rfl rfl rfl rfl rfl overQ setQ ?_) | refine WL.step rfl (StepTo.storeRow 2 rfl rfl rfl rfl rfl rfl rfl rfl (by omega) setQ ?_) | refine WL.step rfl (StepTo.store1 3 rfl rfl rfl rfl rfl rfl rfl overQ setQ ?_) | refine WL.step rfl (StepTo.storeA 3 rfl rfl rfl rfl rfl rfl rfl rfl overQ setQ ?_) | refine WL.step rfl (StepTo.storeRow 3 rfl rfl rfl rfl rfl rfl rfl rfl (by omega) setQ ?_) | refine WL.step rfl (StepTo.store1 4 rfl rfl rfl rfl rfl rfl rfl overQ setQ ?_) | refine WL.step rfl (StepTo.storeA 4 rfl rfl rfl rfl rfl rfl rfl rfl overQ setQ ?_) | refine WL.step rfl (StepTo.storeRow 4 rfl rfl rfl rfl rfl rfl rfl rfl (by omega) setQ ?_) | refine WL.step rfl (StepTo.store1 5 rfl rfl rfl rfl rfl rfl rfl overQ setQ ?_) | refine WL.step rfl (StepTo.storeA 5 rfl rfl rfl rfl rfl rfl rfl rfl overQ setQ ?_) | refine WL.step rfl (StepTo.storeRow 5 rfl rfl rfl rfl rfl rfl rfl rfl (by omega) setQ ?_) | refine WL.step rfl (StepTo.store1 6 rfl rfl rfl rfl rfl rfl rfl overQ setQ ?_) | refine WL.step rfl (StepTo.storeA 6 rfl rfl rfl rfl rfl rfl rfl rfl overQ setQ ?_) | refine WL.step rfl (StepTo.storeRow 6 rfl rfl rfl rfl rfl rfl rfl rfl (by omega) setQ ?_) | refine WL.step rfl (StepTo.store1 7 rfl rfl rfl rfl rfl rfl rfl overQ setQ ?_) | refine WL.step rfl (StepTo.storeA 7 rfl rfl rfl rfl rfl rfl rfl rfl overQ setQ ?_) | refine WL.step rfl (StepTo.storeRow 7 rfl rfl rfl rfl rfl rfl rfl rfl (by omega) setQ ?_) | refine WL.step rfl (StepTo.store1 8 rfl rfl rfl rfl rfl rfl rfl overQ setQ ?_) | refine WL.step rfl (StepTo.storeA 8 rfl rfl rfl rfl rfl rfl rfl rfl overQ setQ ?_) | refine WL.step rfl (StepTo.storeRow 8 rfl rfl rfl rfl rfl rfl rfl rfl (by omega) setQ ?_) | refine WL.step rfl (StepTo.store1 9 rfl rfl rfl rfl rfl rfl rfl overQ setQ ?_) | refine WL.step rfl (StepTo.storeA 9 rfl rfl rfl rfl rfl rfl rfl rfl overQ setQ ?_) | refine WL.step rfl (StepTo.storeRow 9 rfl rfl rfl rfl rfl rfl rfl rfl (by omega) setQ ?_) | refine WL.step rfl (StepTo.store1 10 rfl rfl rfl rfl rfl rfl rfl overQ setQ ?_) | refine WL.step rfl (StepTo.storeA 10 rfl rfl rfl rfl rfl rfl rfl rfl overQ setQ ?_) | refine WL.step rfl (StepTo.storeRow 10 rfl rfl rfl rfl rfl rfl rfl rfl (by omega) setQ ?_) | refine WL.step rfl (StepTo.store1 11 rfl rfl rfl rfl rfl rfl rfl overQ setQ ?_) | refine WL.step rfl (StepTo.storeA 11 rfl rfl rfl rfl rfl rfl rfl rfl overQ setQ ?_) | refine WL.step rfl (StepTo.storeRow 11 rfl rfl rfl rfl rfl rfl rfl rfl (by omega) setQ ?_))
    | ((with_reducible refine WL.isN_bslice ?_); first | refine WL.step rfl (StepTo.buildSlice rfl rfl rfl rfl rfl rfl rfl rfl rfl rfl cellsOfQ (fun _ => ?_)))
    | with_reducible refine WC.block ?_
    | with_reducible refine WC.scope ?_
    | with_reducible refine WC.label ?_
    | with_reducible refine WQ.ngN ?_
    | with_reducible refine WQ.ngR ?_
    | with_reducible refine WQ.ngX ?_
    | with_reducible refine WC.skip ?_
    | with_reducible refine WC.ret ?_
    | with_reducible refine WC.exit ?_
    | with_reducible refine WQ.thenR ?_
    | with_reducible refine WQ.thenX ?_
    | with_reducible refine WQ.blkN ?_
    | with_reducible refine WQ.blkR ?_
    | ((with_reducible refine WQ.blkX ?_ ?_); focus rfl)
    | ((with_reducible refine WQ.blkY ?_ ?_); focus rfl)
    | refine WC.condT rfl ?_
    | refine WC.condF rfl ?_
    | refine WC.condTh rfl gdQ ?_
    | refine WC.condFh rfl gdQ ?_
    | (refine WC.cond rfl (fun hc => ?_) (fun hc => ?_) <;> (try first | (with_reducible replace hc := of_decide_eq_true hc) | (with_reducible replace hc := of_decide_eq_false hc) | (with_reducible replace hc := eqT hc) | (with_reducible replace hc := eqF hc) | (with_reducible replace hc := neT hc) | (with_reducible replace hc := neF hc) | (with_reducible replace hc := noT hc) | (with_reducible replace hc := noF hc)) <;> (try (exfalso; omega))))
    exact WQ.body (Reads.tmp rfl rfl) fun w' hw' => ⟨_, _, rfl, ⟨A', c', rfl, rfl⟩, (hw'.pick (idx := [0]) ⟨by decide, rfl⟩).toNew (by simp [Item.mine])⟩

def drop1 (path : Int) (p : Pc) : Pc := if outB p path then { p with state := 3, misses := 0 } else p
def dropT (path : Int) (ps : List Pc) : List Int := (ps.filter fun p => outB p path).map (·.tsn)
theorem dropT_take {path : Int} {ps : List Pc} {i : Nat} {p : Pc} (h : ps[i]? = some p) : dropT path (ps.take (i + 1)) = dropT path (ps.take i) ++ (if outB p path then [p.tsn] else []) := by
  unfold dropT
  rw [take_succ h, List.filter_append, List.map_append]
  congr 1
  cases hp : outB p path <;> simp [hp]
set_option maxHeartbeats 1000000 in
theorem drop_w (cum : Int) (A : Option Addr) (n c : Nat) (ps : List Pc) (path : Int) (w : World) (hL : Ps w w.heap.size A n ps) (hA : okA A n) (hn : n ≤ 1000000) {V : Nat → Prop} :
    Calls Try.prog 17 #[.agg #[.int .u32 cum, .slice A n c], .int .i64 path] w
      fun e w' => ∃ v N, e = .returned v ∧ (∃ A' c' A2 c2, okA A' n ∧ v = .tuple #[.agg #[.int .u32 cum, .slice A' n c'], .slice A2 (dropT path ps).length c2] ∧
        N = [.row A' n c' 41 7 (flat Pc.cs (ps.map (drop1 path))), .row A2 (dropT path ps).length c2 22 1 (flat u32c (dropT path ps))]) ∧ New V N w w' := by
  have hl := hL.len
  subst hl
  refine enterW (fun _ => False) _ Try.func17 rfl (by simp only [Try.ntmps17, List.length_cons, List.length_nil, Nat.reduceAdd, Nat.reduceSub]; rfl) ?_
  refine WC.addVw Pc.cs_len hL ?_
  repeat' (first
    | with_reducible refine WL.nil ?_
    | with_reducible refine WQ.thenN ?_
    | with_reducible refine WQ.code ?_
    | with_reducible refine WC.seq ?_
    | with_reducible refine WC.region ?_
    | ((with_reducible refine WL.isN_move ?_); first | refine WL.yld rfl (Yld.pure rfl nrmQ) ?_)
    | ((with_reducible refine WL.isN_assign ?_); first | refine WL.yld rfl (Yld.pure rfl nrmQ) ?_)
    | ((with_reducible refine WL.isN_bin ?_); first | refine WL.yld rfl (Yld.pure rfl nrmQ) ?_ | refine WL.yld rfl (Yld.rem rfl rfl rfl rfl (by omega) (by omega)) ?_ | refine WL.yld rfl (Yld.quo rfl rfl rfl rfl (by omega) (by omega) nrmQ) ?_ | refine WL.yld rfl (Yld.eqlB rfl rfl rfl rfl) ?_ | refine WL.yld rfl (Yld.neqB rfl rfl rfl rfl) ?_ | refine WL.yld rfl (Yld.eqlA 4 rfl rfl rfl (by kernel_rfl) (by kernel_rfl) rfl rfl) ?_ | refine WL.yld rfl (Yld.neqA 4 rfl rfl rfl (by kernel_rfl) (by kernel_rfl) rfl rfl) ?_ | refine WL.yld rfl (Yld.quoT rfl rfl rfl rfl (by omega) nrmQ) ?_)
    | ((with_reducible refine WL.isN_load ?_); first | refine WL.yld rfl (Yld.load rfl rfl rfl rfl cellQ) ?_ | refine WL.yld rfl (Yld.loadAgg rfl rfl rfl rfl rfl aggQ) ?_)
    | ((with_reducible refine WL.isN_faddr ?_); first | refine WL.yld rfl (Yld.fieldAddr rfl rfl rfl rfl rfl rfl rfl) ?_)
    | ((with_reducible refine WL.isN_iaddr ?_); first | refine WL.yld rfl (Yld.indexS 0 rfl rfl rfl rfl rfl rfl (by omega)) ?_ | refine WL.yld rfl (Yld.indexS 1 rfl rfl rfl rfl rfl rfl (by omega)) ?_ | refine WL.yld rfl (Yld.indexS 2 rfl rfl rfl rfl rfl rfl (by omega)) ?_ | refine WL.yld rfl (Yld.indexS _ rfl rfl rfl rfl rfl rfl (by omega)) ?_ | refine WL.yld rfl (Yld.indexA 0 rfl rfl rfl rfl rfl rfl (by omega)) ?_ | refine WL.yld rfl (Yld.indexA 1 rfl rfl rfl rfl rfl rfl (by omega)) ?_ | refine WL.yld rfl (Yld.indexA _ rfl rfl rfl rfl rfl rfl (by omega)) ?_)
    | ((with_reducible refine WL.isN_call ?_); first | refine WL.step rfl (StepTo.callN [] (us := [.slice A ps.length c]) rfl rfl rfl rfl rfl (by kernel_rfl) (fun w hw => clone_w A ps.length c ps w (hw.lst 2 Pc.cs_len (by omega) rfl) (by omega) hA) ?_) | refine WL.yld rfl (Yld.lenSlice rfl rfl rfl) ?_ | refine WL.yld rfl (Yld.lenStr rfl rfl rfl) ?_ | refine WL.step rfl (StepTo.append 0 rfl rfl rfl rfl rfl rfl rfl rfl rfl rfl rfl rfl (by first | exact CellsAt.boxAll 0 rfl | exact CellsAt.boxAll 1 rfl | exact CellsAt.boxAll 2 rfl | exact CellsAt.boxAll 3 rfl | exact CellsAt.boxAll 4 rfl) rfl rfl (by omega) (fun _ _ => ⟨_, setQ, ?_⟩)) | refine WL.step rfl (StepTo.append 1 rfl rfl rfl rfl rfl rfl rfl rfl rfl rfl rfl rfl (by first | exact CellsAt.boxAll 0 rfl | exact CellsAt.boxAll 1 rfl | exact CellsAt.boxAll 2 rfl | exact CellsAt.boxAll 3 rfl | exact CellsAt.boxAll 4 rfl) rfl rfl (by omega) (fun _ _ => ⟨_, setQ, ?_⟩)) | refine WL.step rfl (StepTo.append 2 rfl rfl rfl rfl rfl rfl rfl rfl rfl rfl rfl rfl (by first | exact CellsAt.boxAll 0 rfl | exact CellsAt.boxAll 1 rfl | exact CellsAt.boxAll 2 rfl | exact CellsAt.boxAll 3 rfl | exact CellsAt.boxAll 4 rfl) rfl rfl (by omega) (fun _ _ => ⟨_, setQ, ?_⟩)) | refine WL.step rfl (StepTo.append 3 rfl rfl rfl rfl rfl rfl rfl rfl rfl rfl rfl rfl (by first | exact CellsAt.boxAll 0 rfl | exact CellsAt.boxAll 1 rfl | exact CellsAt.boxAll 2 rfl | exact CellsAt.boxAll 3 rfl | exact CellsAt.boxAll 4 rfl) rfl rfl (by omega) (fun _ _ => ⟨_, setQ, ?_⟩)) | refine WL.step rfl (StepTo.append 4 rfl rfl rfl rfl rfl rfl rfl rfl rfl rfl rfl rfl (by first | exact CellsAt.boxAll 0 rfl | exact CellsAt.boxAll 1 rfl | exact CellsAt.boxAll 2 rfl | exact CellsAt.boxAll 3 rfl | exact CellsAt.boxAll 4 rfl) rfl rfl (by omega) (fun _ _ => ⟨_, setQ, ?_⟩)) | refine WL.step rfl (StepTo.append 5 rfl rfl rfl rfl rfl rfl rfl rfl rfl rfl rfl rfl (by first | exact CellsAt.boxAll 0 rfl | exact CellsAt.boxAll 1 rfl | exact CellsAt.boxAll 2 rfl | exact CellsAt.boxAll 3 rfl | exact CellsAt.boxAll 4 rfl) rfl rfl (by omega) (fun _ _ => ⟨_, setQ, ?_⟩)) | refine WL.step rfl (StepTo.append 6 rfl rfl rfl rfl rfl rfl rfl rfl rfl rfl rfl rfl (by first | exact CellsAt.boxAll 0 rfl | exact CellsAt.boxAll 1 rfl | exact CellsAt.boxAll 2 rfl | exact CellsAt.boxAll 3 rfl | exact CellsAt.boxAll 4 rfl) rfl rfl (by omega) (fun _ _ => ⟨_, setQ, ?_⟩)))
    | ((with_reducible refine WL.isN_box ?_); first | refine WL.step rfl (StepTo.boxA rfl rfl rfl rfl (fun _ => ?_)) | refine WL.step rfl (StepTo.box1 rfl rfl rfl rfl rfl (fun _ => ?_)))
    | ((with_reducible refine WL.isN_alloc ?_); first | refine WL.step rfl (StepTo.allocA rfl rfl rfl rfl (fun _ => ?_)) | refine WL.step rfl (StepTo.alloc1 rfl rfl rfl rfl rfl (fun _ => ?_)))
    | ((with_reducible refine WL.isN_store ?_); first | refine WL.step rfl (StepTo.store1 0 rfl rfl rfl rfl rfl rfl rfl overQ setQ ?_) | refine WL.step rfl (StepTo.storeA 0 rfl rfl rfl rfl rfl rfl rfl rfl overQ setQ ?_) | refine WL.step rfl (StepTo.storeRow 0 rfl rfl rfl rfl rfl rfl rfl rfl (by omega) setQ ?_) | refine WL.step rfl (StepTo.store1 1 rfl rfl rfl rfl rfl rfl rfl overQ setQ ?_) | refine WL.step rfl (StepTo.storeA 1 rfl rfl rfl rfl rfl rfl rfl rfl overQ setQ ?_) | refine WL.step rfl (StepTo.storeRow 1 rfl rfl rfl rfl rfl rfl rfl rfl (by omega) setQ ?_) | refine WL.step rfl (StepTo.store1 2 rfl rfl rfl rfl rfl rfl rfl overQ setQ ?_) | refine WL.step rfl (StepTo.storeA 2 rfl rfl rfl rfl rfl rfl rfl rfl overQ setQ ?_) | refine WL.step rfl (StepTo.storeRow 2 rfl rfl rfl rfl rfl rfl rfl rfl (by omega) setQ ?_) | refine WL.step rfl (StepTo.store1 3 rfl rfl rfl rfl rfl rfl rfl overQ setQ ?_) | refine WL.step rfl (StepTo.storeA 3 rfl rfl rfl rfl rfl rfl rfl rfl overQ setQ ?_) | refine WL.step rfl (StepTo.storeRow 3 rfl rfl rfl rfl rfl rfl rfl rfl (by omega) setQ ?_) | refine WL.step rfl (StepTo.store1 4 rfl rfl rfl rfl rfl rfl rfl overQ setQ ?_) | refine WL.step rfl (StepTo.storeA 4 rfl rfl rfl rfl rfl rfl rfl rfl overQ setQ ?_) | refine WL.step rfl (StepTo.storeRow 4 rfl rfl rfl rfl rfl rfl rfl rfl (by omega) setQ ?_) | refine WL.step rfl (StepTo.store1 5 rfl rfl rfl rfl rfl rfl rfl overQ setQ ?_) | refine WL.step rfl (StepTo.storeA 5 rfl rfl rfl rfl rfl rfl rfl rfl overQ setQ ?_) | refine WL.step rfl (StepTo.storeRow 5 rfl rfl rfl rfl rfl rfl rfl rfl (by omega) setQ ?_) | refine WL.step rfl (StepTo.store1 6 rfl rfl rfl rfl rfl rfl rfl overQ setQ ?_) | refine WL.step rfl (StepTo.storeA 6 rfl rfl rfl rfl rfl rfl rfl rfl overQ setQ ?_) | refine WL.step rfl (StepTo.storeRow 6 rfl rfl rfl rfl rfl rfl rfl rfl (by omega) setQ ?_) | refine WL.step rfl (StepTo.store1 7 rfl rfl rfl rfl rfl rfl rfl overQ setQ ?_) | refine WL.step rfl (StepTo.storeA 7 rfl rfl rfl rfl rfl rfl rfl rfl overQ setQ ?_) | refine WL.step rfl (StepTo.storeRow 7 rfl rfl rfl rfl rfl rfl rfl rfl (by omega) setQ ?_) | refine WL.step rfl (StepTo.store1 8 rfl rfl rfl rfl rfl rfl rfl overQ setQ ?_) | refine WL.step rfl (StepTo.storeA 8 rfl rfl rfl rfl rfl rfl rfl rfl overQ setQ ?_) | refine WL.step rfl (StepTo.storeRow 8 rfl rfl rfl rfl rfl rfl rfl rfl (by omega) setQ ?_) | refine WL.step rfl (StepTo.store1 9 rfl rfl rfl rfl rfl rfl rfl overQ setQ ?_) | refine WL.step rfl (StepTo.storeA 9 rfl rfl rfl rfl rfl rfl rfl rfl overQ setQ ?_) | refine WL.step rfl (StepTo.storeRow 9 rfl rfl rfl rfl rfl rfl rfl rfl (by omega) setQ ?_) | refine WL.step rfl (StepTo.store1 10 rfl rfl rfl rfl rfl rfl rfl overQ setQ ?_) | refine WL.step rfl (StepTo.storeA 10 rfl rfl rfl rfl rfl rfl rfl rfl overQ setQ ?_) | refine WL.step rfl (StepTo.storeRow 10 rfl rfl rfl rfl rfl rfl rfl rfl (by omega) setQ ?_) | refine WL.step rfl (StepTo.store1 11 rfl rfl rfl rfl rfl rfl rfl overQ setQ ?_) | refine WL.step rfl (StepTo.storeA 11 rfl rfl rfl rfl rfl rfl rfl rfl overQ setQ ?_) | refine WL.step rfl (StepTo.storeRow 11 rfl rfl rfl rfl rfl rfl rfl rfl (by omega) setQ ?_))
    | ((with_reducible refine WL.isN_bslice ?_); first | refine WL.step rfl (StepTo.buildSlice rfl rfl rfl rfl rfl rfl rfl rfl rfl rfl cellsOfQ (fun _ => ?_)))
    | with_reducible refine WC.block ?_
    | with_reducible refine WC.scope ?_
    | with_reducible refine WC.label ?_
    | with_reducible refine WQ.ngN ?_
    | with_reducible refine WQ.ngR ?_
    | with_reducible refine WQ.ngX ?_
    | with_reducible refine WC.skip ?_
    | with_reducible refine WC.ret ?_
    | with_reducible refine WC.exit ?_
    | with_reducible refine WQ.thenR ?_
    | with_reducible refine WQ.thenX ?_
    | with_reducible refine WQ.blkN ?_
    | with_reducible refine WQ.blkR ?_
    | ((with_reducible refine WQ.blkX ?_ ?_); focus rfl)
    | ((with_reducible refine WQ.blkY ?_ ?_); focus rfl)
    | refine WC.condT rfl ?_
    | refine WC.condF rfl ?_
    | refine WC.condTh rfl gdQ ?_
    | refine WC.condFh rfl gdQ ?_
    | (refine WC.cond rfl (fun hc => ?_) (fun hc => ?_) <;> (try first | (with_reducible replace hc := of_decide_eq_true hc) | (with_reducible replace hc := of_decide_eq_false hc) | (with_reducible replace hc := eqT hc) | (with_reducible replace hc := eqF hc) | (with_reducible replace hc := neT hc) | (with_reducible replace hc := neF hc) | (with_reducible replace hc := noT hc) | (with_reducible replace hc := noF hc)) <;> (try (exfalso; omega))))
  rename_i bs br
  rintro v N ⟨A7, c7, rfl, rfl⟩
  repeat' (first
    | with_reducible refine WL.nil ?_
    | with_reducible refine WQ.thenN ?_
    | with_reducible refine WQ.code ?_
    | with_reducible refine WC.seq ?_
    | with_reducible refine WC.region ?_
    | ((with_reducible refine WL.isN_move ?_); first | refine WL.yld rfl (Yld.pure rfl nrmQ) ?_)
    | ((with_reducible refine WL.isN_assign ?_); first | refine WL.yld rfl (Yld.pure rfl nrmQ) ?_)
    | ((with_reducible refine WL.isN_bin ?_); first | refine WL.yld rfl (Yld.pure rfl nrmQ) ?_ | refine WL.yld rfl (Yld.rem rfl rfl rfl rfl (by omega) (by omega)) ?_ | refine WL.yld rfl (Yld.quo rfl rfl rfl rfl (by omega) (by omega) nrmQ) ?_ | refine WL.yld rfl (Yld.eqlB rfl rfl rfl rfl) ?_ | refine WL.yld rfl (Yld.neqB rfl rfl rfl rfl) ?_ | refine WL.yld rfl (Yld.eqlA 4 rfl rfl rfl (by kernel_rfl) (by kernel_rfl) rfl rfl) ?_ | refine WL.yld rfl (Yld.neqA 4 rfl rfl rfl (by kernel_rfl) (by kernel_rfl) rfl rfl) ?_ | refine WL.yld rfl (Yld.quoT rfl rfl rfl rfl (by omega) nrmQ) ?_)
    | ((with_reducible refine WL.isN_load ?_); first | refine WL.yld rfl (Yld.load rfl rfl rfl rfl cellQ) ?_ | refine WL.yld rfl (Yld.loadAgg rfl rfl rfl rfl rfl aggQ) ?_)
    | ((with_reducible refine WL.isN_faddr ?_); first | refine WL.yld rfl (Yld.fieldAddr rfl rfl rfl rfl rfl rfl rfl) ?_)
    | ((with_reducible refine WL.isN_iaddr ?_); first | refine WL.yld rfl (Yld.indexS 0 rfl rfl rfl rfl rfl rfl (by omega)) ?_ | refine WL.yld rfl (Yld.indexS 1 rfl rfl rfl rfl rfl rfl (by omega)) ?_ | refine WL.yld rfl (Yld.indexS 2 rfl rfl rfl rfl rfl rfl (by omega)) ?_ | refine WL.yld rfl (Yld.indexS _ rfl rfl rfl rfl rfl rfl (by omega)) ?_ | refine WL.yld rfl (Yld.indexA 0 rfl rfl rfl rfl rfl rfl (by omega)) ?_ | refine WL.yld rfl (Yld.indexA 1 rfl rfl rfl rfl rfl rfl (by omega)) ?_ | refine WL.yld rfl (Yld.indexA _ rfl rfl rfl rfl rfl rfl (by omega)) ?_)
    | ((with_reducible refine WL.isN_call ?_); first | refine WL.yld rfl (Yld.lenSlice rfl rfl rfl) ?_ | refine WL.yld rfl (Yld.lenStr rfl rfl rfl) ?_ | refine WL.step rfl (StepTo.append 0 rfl rfl rfl rfl rfl rfl rfl rfl rfl rfl rfl rfl (by first | exact CellsAt.boxAll 0 rfl | exact CellsAt.boxAll 1 rfl | exact CellsAt.boxAll 2 rfl | exact CellsAt.boxAll 3 rfl | exact CellsAt.boxAll 4 rfl) rfl rfl (by omega) (fun _ _ => ⟨_, setQ, ?_⟩)) | refine WL.step rfl (StepTo.append 1 rfl rfl rfl rfl rfl rfl rfl rfl rfl rfl rfl rfl (by first | exact CellsAt.boxAll 0 rfl | exact CellsAt.boxAll 1 rfl | exact CellsAt.boxAll 2 rfl | exact CellsAt.boxAll 3 rfl | exact CellsAt.boxAll 4 rfl) rfl rfl (by omega) (fun _ _ => ⟨_, setQ, ?_⟩)) | refine WL.step rfl (StepTo.append 2 rfl rfl rfl rfl rfl rfl rfl rfl rfl rfl rfl rfl (by first | exact CellsAt.boxAll 0 rfl | exact CellsAt.boxAll 1 rfl | exact CellsAt.boxAll 2 rfl | exact CellsAt.boxAll 3 rfl | exact CellsAt.boxAll 4 rfl) rfl rfl (by omega) (fun _ _ => ⟨_, setQ, ?_⟩)) | refine WL.step rfl (StepTo.append 3 rfl rfl rfl rfl rfl rfl rfl rfl rfl rfl rfl rfl (by first | exact CellsAt.boxAll 0 rfl | exact CellsAt.boxAll 1 rfl | exact CellsAt.boxAll 2 rfl | exact CellsAt.boxAll 3 rfl | exact CellsAt.boxAll 4 rfl) rfl rfl (by omega) (fun _ _ => ⟨_, setQ, ?_⟩)) | refine WL.step rfl (StepTo.append 4 rfl rfl rfl rfl rfl rfl rfl rfl rfl rfl rfl rfl (by first | exact CellsAt.boxAll 0 rfl | exact CellsAt.boxAll 1 rfl | exact CellsAt.boxAll 2 rfl | exact CellsAt.boxAll 3 rfl | exact CellsAt.boxAll 4 rfl) rfl rfl (by omega) (fun _ _ => ⟨_, setQ, ?_⟩)) | refine WL.step rfl (StepTo.append 5 rfl rfl rfl rfl rfl rfl rfl rfl rfl rfl rfl rfl (by first | exact CellsAt.boxAll 0 rfl | exact CellsAt.boxAll 1 rfl | exact CellsAt.boxAll 2 rfl | exact CellsAt.boxAll 3 rfl | exact CellsAt.boxAll 4 rfl) rfl rfl (by omega) (fun _ _ => ⟨_, setQ, ?_⟩)) | refine WL.step rfl (StepTo.append 6 rfl rfl rfl rfl rfl rfl rfl rfl rfl rfl rfl rfl (by first | exact CellsAt.boxAll 0 rfl | exact CellsAt.boxAll 1 rfl | exact CellsAt.boxAll 2 rfl | exact CellsAt.boxAll 3 rfl | exact CellsAt.boxAll 4 rfl) rfl rfl (by omega) (fun _ _ => ⟨_, setQ, ?_⟩)))
    | ((with_reducible refine WL.isN_box ?_); first | refine WL.step rfl (StepTo.boxA rfl rfl rfl rfl (fun _ => ?_)) | refine WL.step rfl (StepTo.box1 rfl rfl rfl rfl rfl (fun _ => ?_)))
    | ((with_reducible refine WL.isN_alloc ?_); first | refine WL.step rfl (StepTo.allocA rfl rfl rfl rfl (fun _ => ?_)) | refine WL.step rfl (StepTo.alloc1 rfl rfl rfl rfl rfl (fun _ => ?_)))
    | ((with_reducible refine WL.isN_store ?_); first | refine WL.step rfl (StepTo.store1 0 rfl rfl rfl rfl rfl rfl rfl overQ setQ ?_) | refine WL.step rfl (StepTo.storeA 0 rfl rfl rfl rfl rfl rfl rfl rfl overQ setQ ?_) | refine WL.step rfl (StepTo.storeRow 0 rfl rfl rfl rfl rfl rfl rfl rfl (by omega) setQ ?_) | refine WL.step rfl (StepTo.store1 1 rfl rfl rfl rfl rfl rfl rfl overQ setQ ?_) | refine WL.step rfl (StepTo.storeA 1 rfl rfl rfl rfl rfl rfl rfl rfl overQ setQ ?_) | refine WL.step rfl (StepTo.storeRow 1 rfl rfl rfl rfl rfl rfl rfl rfl (by omega) setQ ?_) | refine WL.step rfl (StepTo.store1 2 rfl rfl rfl rfl rfl rfl rfl overQ setQ ?_) | refine WL.step rfl (StepTo.storeA 2 rfl rfl rfl rfl rfl rfl rfl rfl overQ setQ ?_) | refine WL.step rfl (StepTo.storeRow 2 rfl rfl rfl rfl rfl rfl rfl rfl (by omega) setQ ?_) | refine WL.step rfl (StepTo.store1 3 rfl rfl rfl rfl rfl rfl rfl overQ setQ ?_) | refine WL.step rfl (StepTo.storeA 3 rfl rfl rfl rfl rfl rfl rfl rfl overQ setQ ?_) | refine WL.step rfl (StepTo.storeRow 3 rfl rfl rfl rfl rfl rfl rfl rfl (by omega) setQ ?_) | refine WL.step rfl (StepTo.store1 4 rfl rfl rfl rfl rfl rfl rfl overQ setQ ?_) | refine WL.step rfl (StepTo.storeA 4 rfl rfl rfl rfl rfl rfl rfl rfl overQ setQ ?_) | refine WL.step rfl (StepTo.storeRow 4 rfl rfl rfl rfl rfl rfl rfl rfl (by omega) setQ ?_) | refine WL.step rfl (StepTo.store1 5 rfl rfl rfl rfl rfl rfl rfl overQ setQ ?_) | refine WL.step rfl (StepTo.storeA 5 rfl rfl rfl rfl rfl rfl rfl rfl overQ setQ ?_) | refine WL.step rfl (StepTo.storeRow 5 rfl rfl rfl rfl rfl rfl rfl rfl (by omega) setQ ?_) | refine WL.step rfl (StepTo.store1 6 rfl rfl rfl rfl rfl rfl rfl overQ setQ ?_) | refine WL.step rfl (StepTo.storeA 6 rfl rfl rfl rfl rfl rfl rfl rfl overQ setQ ?_) | refine WL.step rfl (StepTo.storeRow 6 rfl rfl rfl rfl rfl rfl rfl rfl (by omega) setQ ?_) | refine WL.step rfl (StepTo.store1 7 rfl rfl rfl rfl rfl rfl rfl overQ setQ ?_) | refine WL.step rfl (StepTo.storeA 7 rfl rfl rfl rfl rfl rfl rfl rfl overQ setQ ?_) | refine WL.step rfl (StepTo.storeRow 7 rfl rfl rfl rfl rfl rfl rfl rfl (by omega) setQ ?_) | refine WL.step rfl (StepTo.store1 8 rfl rfl rfl rfl rfl rfl rfl overQ setQ ?_) | refine WL.step rfl (StepTo.storeA 8 rfl rfl rfl rfl rfl rfl rfl rfl overQ setQ ?_) | refine WL.step rfl (StepTo.storeRow 8 rfl rfl rfl rfl rfl rfl rfl rfl (by omega) setQ ?_) | refine WL.step rfl (StepTo.store1 9 rfl rfl rfl rfl rfl rfl rfl overQ setQ ?_) | refine WL.step rfl (StepTo.storeA 9 rfl rfl rfl rfl rfl rfl rfl rfl overQ setQ ?_) | refine WL.step rfl (StepTo.storeRow 9 rfl rfl rfl rfl rfl rfl rfl rfl (by omega) setQ ?_) | refine WL.step rfl (StepTo.store1 10 rfl rfl rfl rfl rfl rfl rfl overQ setQ ?_) | refine WL.step rfl (StepTo.storeA 10 rfl rfl rfl rfl rfl rfl rfl rfl overQ setQ ?_) | refine WL.step rfl (StepTo.storeRow 10 rfl rfl rfl rfl rfl rfl rfl rfl (by omega) setQ ?_) | refine WL.step rfl (StepTo.store1 11 rfl rfl rfl rfl rfl rfl rfl overQ setQ ?_) | refine WL.step rfl (StepTo.storeA 11 rfl rfl rfl rfl rfl rfl rfl rfl overQ setQ ?_) | refine WL.step rfl (StepTo.storeRow 11 rfl rfl rfl rfl rfl rfl rfl rfl (by omega) setQ ?_))
    | ((with_reducible refine WL.isN_bslice ?_); first | refine WL.step rfl (StepTo.buildSlice rfl rfl rfl rfl rfl rfl rfl rfl rfl rfl cellsOfQ (fun _ => ?_)))
    | with_reducible refine WC.block ?_
    | with_reducible refine WC.scope ?_
    | with_reducible refine WC.label ?_
    | with_reducible refine WQ.ngN ?_
    | with_reducible refine WQ.ngR ?_
    | with_reducible refine WQ.ngX ?_
    | with_reducible refine WC.skip ?_
    | with_reducible refine WC.ret ?_
    | with_reducible refine WC.exit ?_
    | with_reducible refine WQ.thenR ?_
    | with_reducible refine WQ.thenX ?_
    | with_reducible refine WQ.blkN ?_
    | with_reducible refine WQ.blkR ?_
    | ((with_reducible refine WQ.blkX ?_ ?_); focus rfl)
    | ((with_reducible refine WQ.blkY ?_ ?_); focus rfl)
    | refine WC.condT rfl ?_
    | refine WC.condF rfl ?_
    | refine WC.condTh rfl gdQ ?_
    | refine WC.condFh rfl gdQ ?_
    | (refine WC.cond rfl (fun hc => ?_) (fun hc => ?_) <;> (try first | (with_reducible replace hc := of_decide_eq_true hc) | (with_reducible replace hc := of_decide_eq_false hc) | (with_reducible replace hc := eqT hc) | (with_reducible replace hc := eqF hc) | (with_reducible replace hc := neT hc) | (with_reducible replace hc := neF hc) | (with_reducible replace hc := noT hc) | (with_reducible replace hc := noF hc)) <;> (try (exfalso; omega))))
  refine WC.nilRow 22 1 ?_
  refine WC.loop (fun mm τ H => ∃ (i m : Nat) (A' : Option Addr) (c' : Nat), i ≤ ps.length ∧ mm = ps.length - i ∧ m = (dropT path (ps.take i)).length ∧ m ≤ i ∧
      τ = [(1, .int .i64 path), (2, .pointer (some ⟨bs, 0, none⟩)), (4, .pointer (some ⟨br, 0, none⟩)), (6, .slice A' m c'), (14, .slice A7 ps.length c7), (15, .int .i64 ps.length), (16, .int .i64 i)] ∧
      H = [.row A' m c' 22 1 (flat u32c (dropT path (ps.take i))), .row A7 ps.length c7 41 7 (flat Pc.cs ((ps.map (drop1 path)).take i ++ ps.drop i)), .box bs 25 [.int .u32 cum, .slice A7 ps.length c7], .box br 25 [.int .u32 0, .slice none 0 0]])
    ps.length _ _ [0, 1, 3, 2] ?_ ?_ ⟨0, 0, none, 0, by omega, rfl, rfl, by omega, rfl, rfl⟩ ?_
  · exact (by repeat (first | exact Sub.nil | refine Sub.cons rfl ?_ | refine Sub.consE rfl (int_eq (by omega)) ?_))
  · exact ⟨by decide, rfl⟩
  rintro mm τ H ⟨i, m, A', c', hi, rfl, hmm, hmi, rfl, rfl⟩
  have hml : (ps.map (drop1 path)).length = ps.length := List.length_map _
  have hmidl : (flat Pc.cs ((ps.map (drop1 path)).take i ++ ps.drop i)).length = ps.length * 7 := by
    rw [flat_len Pc.cs_len, List.length_append, List.length_take, List.length_drop, hml]; congr 1; omega
  by_cases hlt : i < ps.length
  · obtain ⟨p, hp⟩ : ∃ p, ps[i]? = some p := ⟨_, List.getElem?_eq_getElem (by omega)⟩
    have hs3 : (ps.map (drop1 path))[i]? = some (drop1 path p) := by rw [List.getElem?_map, hp]; rfl
    have hmid := mid_get (a := ps.map (drop1 path)) (b := ps) (by omega) hp
    have hset := mid_set (a := ps.map (drop1 path)) (b := ps) (by omega) hs3
    have hpp : PartAt (flat Pc.cs ((ps.map (drop1 path)).take i ++ ps.drop i)) (i * 7) p.cs := PartAt.flat Pc.cs_len hmid
    have ht := dropT_take (path := path) hp
    refine WC.rowAt 1 rfl (by omega) fun b7 hA7 => ?_
    subst hA7
    cases ho : outB p path with
    | true =>
      have e1 : drop1 path p = { p with state := 3, misses := 0 } := by simp [drop1, ho]
      rw [e1] at hset
      rw [ho, if_pos rfl] at ht
      have hi7 : (((ps.map (drop1 path)).take i ++ ps.drop i).length) > i := (List.getElem?_eq_some_iff.1 hmid).1
      have hA1 := flat_cell Pc.cs_len 2 (.int .i64 3) hmid (by omega) (x' := { p with state := 3 }) rfl
      have hA2 := flat_cell Pc.cs_len 3 (.int .i64 0) (x' := { p with state := 3, misses := 0 }) (List.getElem?_set_self (a := { p with state := 3 }) hi7) (by omega) rfl
      have hB1 := flat_cell Pc.cs_len 3 (.int .i64 0) hmid (by omega) (x' := { p with misses := 0 }) rfl
      have hB2 := flat_cell Pc.cs_len 2 (.int .i64 3) (x' := { p with state := 3, misses := 0 }) (List.getElem?_set_self (a := { p with misses := 0 }) hi7) (by omega) rfl
      rw [List.set_set, hset, ← hA1] at hA2
      rw [List.set_set, hset, ← hB1] at hB2
      rw [← Nat.zero_add (i * 7)] at hA2 hB2
      have hAl : ((flat Pc.cs ((ps.map (drop1 path)).take i ++ ps.drop i)).set (0 + i * 7 + 2) (.int .i64 3)).length = ps.length * 7 := by rw [List.length_set, hmidl]
      have hBl : ((flat Pc.cs ((ps.map (drop1 path)).take i ++ ps.drop i)).set (0 + i * 7 + 3) (.int .i64 0)).length = ps.length * 7 := by rw [List.length_set, hmidl]
      have hfa : flat u32c (dropT path (ps.take i)) ++ [.int .u32 p.tsn] = flat u32c (dropT path (ps.take (i + 1))) := by rw [ht, flat_snoc]; rfl
      clear hA1 hB1 hset hs3
      repeat' (first
    | with_reducible refine WL.nil ?_
    | with_reducible refine WQ.thenN ?_
    | with_reducible refine WQ.code ?_
    | with_reducible refine WC.seq ?_
    | with_reducible refine WC.region ?_
    | ((with_reducible refine WL.isN_move ?_); first | refine WL.yld rfl (Yld.pure rfl nrmQ) ?_)
    | ((with_reducible refine WL.isN_assign ?_); first | refine WL.yld rfl (Yld.pure rfl nrmQ) ?_)
    | ((with_reducible refine WL.isN_bin ?_); first | refine WL.yld rfl (Yld.pure rfl nrmQ) ?_ | refine WL.yld rfl (Yld.rem rfl rfl rfl rfl (by omega) (by omega)) ?_ | refine WL.yld rfl (Yld.quo rfl rfl rfl rfl (by omega) (by omega) nrmQ) ?_ | refine WL.yld rfl (Yld.eqlB rfl rfl rfl rfl) ?_ | refine WL.yld rfl (Yld.neqB rfl rfl rfl rfl) ?_ | refine WL.yld rfl (Yld.eqlA 4 rfl rfl rfl (by kernel_rfl) (by kernel_rfl) rfl rfl) ?_ | refine WL.yld rfl (Yld.neqA 4 rfl rfl rfl (by kernel_rfl) (by kernel_rfl) rfl rfl) ?_ | refine WL.yld rfl (Yld.quoT rfl rfl rfl rfl (by omega) nrmQ) ?_)
    | ((with_reducible refine WL.isN_load ?_); first | refine WL.yld rfl (Yld.load rfl rfl rfl rfl cellQ) ?_ | refine WL.yld rfl (Yld.loadAgg rfl rfl rfl rfl rfl aggQ) ?_)
    | ((with_reducible refine WL.isN_faddr ?_); first | refine WL.yld rfl (Yld.fieldAddr rfl rfl rfl rfl rfl rfl rfl) ?_)
    | ((with_reducible refine WL.isN_iaddr ?_); first | refine WL.yld rfl (Yld.indexS 0 rfl rfl rfl rfl rfl rfl (by omega)) ?_ | refine WL.yld rfl (Yld.indexS 1 rfl rfl rfl rfl rfl rfl (by omega)) ?_ | refine WL.yld rfl (Yld.indexS 2 rfl rfl rfl rfl rfl rfl (by omega)) ?_ | refine WL.yld rfl (Yld.indexS _ rfl rfl rfl rfl rfl rfl (by omega)) ?_ | refine WL.yld rfl (Yld.indexA 0 rfl rfl rfl rfl rfl rfl (by omega)) ?_ | refine WL.yld rfl (Yld.indexA 1 rfl rfl rfl rfl rfl rfl (by omega)) ?_ | refine WL.yld rfl (Yld.indexA _ rfl rfl rfl rfl rfl rfl (by omega)) ?_)
    | ((with_reducible refine WL.isN_call ?_); first | refine WL.step rfl (StepTo.callV (v := .bool true) (us := [.agg #[.int .u32 p.tsn, .int .i64 p.size, .int .i64 p.state, .int .i64 p.misses, .int .i64 p.times, .int .i64 p.path, .int .i64 p.at_], .int .i64 path]) rfl rfl rfl rfl rfl (by kernel_rfl) (fun w _ => ho ▸ out_q p path w) ?_) | refine WL.yld rfl (Yld.lenSlice rfl rfl rfl) ?_ | refine WL.yld rfl (Yld.lenStr rfl rfl rfl) ?_ | refine WL.step rfl (StepTo.append 0 rfl rfl rfl rfl rfl rfl rfl rfl rfl rfl rfl rfl (by first | exact CellsAt.boxAll 0 rfl | exact CellsAt.boxAll 1 rfl | exact CellsAt.boxAll 2 rfl | exact CellsAt.boxAll 3 rfl | exact CellsAt.boxAll 4 rfl) rfl rfl (by omega) (fun _ _ => ⟨_, setQ, ?_⟩)) | refine WL.step rfl (StepTo.append 1 rfl rfl rfl rfl rfl rfl rfl rfl rfl rfl rfl rfl (by first | exact CellsAt.boxAll 0 rfl | exact CellsAt.boxAll 1 rfl | exact CellsAt.boxAll 2 rfl | exact CellsAt.boxAll 3 rfl | exact CellsAt.boxAll 4 rfl) rfl rfl (by omega) (fun _ _ => ⟨_, setQ, ?_⟩)) | refine WL.step rfl (StepTo.append 2 rfl rfl rfl rfl rfl rfl rfl rfl rfl rfl rfl rfl (by first | exact CellsAt.boxAll 0 rfl | exact CellsAt.boxAll 1 rfl | exact CellsAt.boxAll 2 rfl | exact CellsAt.boxAll 3 rfl | exact CellsAt.boxAll 4 rfl) rfl rfl (by omega) (fun _ _ => ⟨_, setQ, ?_⟩)) | refine WL.step rfl (StepTo.append 3 rfl rfl rfl rfl rfl rfl rfl rfl rfl rfl rfl rfl (by first | exact CellsAt.boxAll 0 rfl | exact CellsAt.boxAll 1 rfl | exact CellsAt.boxAll 2 rfl | exact CellsAt.boxAll 3 rfl | exact CellsAt.boxAll 4 rfl) rfl rfl (by omega) (fun _ _ => ⟨_, setQ, ?_⟩)) | refine WL.step rfl (StepTo.append 4 rfl rfl rfl rfl rfl rfl rfl rfl rfl rfl rfl rfl (by first | exact CellsAt.boxAll 0 rfl | exact CellsAt.boxAll 1 rfl | exact CellsAt.boxAll 2 rfl | exact CellsAt.boxAll 3 rfl | exact CellsAt.boxAll 4 rfl) rfl rfl (by omega) (fun _ _ => ⟨_, setQ, ?_⟩)) | refine WL.step rfl (StepTo.append 5 rfl rfl rfl rfl rfl rfl rfl rfl rfl rfl rfl rfl (by first | exact CellsAt.boxAll 0 rfl | exact CellsAt.boxAll 1 rfl | exact CellsAt.boxAll 2 rfl | exact CellsAt.boxAll 3 rfl | exact CellsAt.boxAll 4 rfl) rfl rfl (by omega) (fun _ _ => ⟨_, setQ, ?_⟩)) | refine WL.step rfl (StepTo.append 6 rfl rfl rfl rfl rfl rfl rfl rfl rfl rfl rfl rfl (by first | exact CellsAt.boxAll 0 rfl | exact CellsAt.boxAll 1 rfl | exact CellsAt.boxAll 2 rfl | exact CellsAt.boxAll 3 rfl | exact CellsAt.boxAll 4 rfl) rfl rfl (by omega) (fun _ _ => ⟨_, setQ, ?_⟩)))
    | ((with_reducible refine WL.isN_box ?_); first | refine WL.step rfl (StepTo.boxA rfl rfl rfl rfl (fun _ => ?_)) | refine WL.step rfl (StepTo.box1 rfl rfl rfl rfl rfl (fun _ => ?_)))
    | ((with_reducible refine WL.isN_alloc ?_); first | refine WL.step rfl (StepTo.allocA rfl rfl rfl rfl (fun _ => ?_)) | refine WL.step rfl (StepTo.alloc1 rfl rfl rfl rfl rfl (fun _ => ?_)))
    | ((with_reducible refine WL.isN_store ?_); first | refine WL.step rfl (StepTo.store1 0 rfl rfl rfl rfl rfl rfl rfl overQ setQ ?_) | refine WL.step rfl (StepTo.storeA 0 rfl rfl rfl rfl rfl rfl rfl rfl overQ setQ ?_) | refine WL.step rfl (StepTo.storeRow 0 rfl rfl rfl rfl rfl rfl rfl rfl (by omega) setQ ?_) | refine WL.step rfl (StepTo.store1 1 rfl rfl rfl rfl rfl rfl rfl overQ setQ ?_) | refine WL.step rfl (StepTo.storeA 1 rfl rfl rfl rfl rfl rfl rfl rfl overQ setQ ?_) | refine WL.step rfl (StepTo.storeRow 1 rfl rfl rfl rfl rfl rfl rfl rfl (by omega) setQ ?_) | refine WL.step rfl (StepTo.store1 2 rfl rfl rfl rfl rfl rfl rfl overQ setQ ?_) | refine WL.step rfl (StepTo.storeA 2 rfl rfl rfl rfl rfl rfl rfl rfl overQ setQ ?_) | refine WL.step rfl (StepTo.storeRow 2 rfl rfl rfl rfl rfl rfl rfl rfl (by omega) setQ ?_) | refine WL.step rfl (StepTo.store1 3 rfl rfl rfl rfl rfl rfl rfl overQ setQ ?_) | refine WL.step rfl (StepTo.storeA 3 rfl rfl rfl rfl rfl rfl rfl rfl overQ setQ ?_) | refine WL.step rfl (StepTo.storeRow 3 rfl rfl rfl rfl rfl rfl rfl rfl (by omega) setQ ?_) | refine WL.step rfl (StepTo.store1 4 rfl rfl rfl rfl rfl rfl rfl overQ setQ ?_) | refine WL.step rfl (StepTo.storeA 4 rfl rfl rfl rfl rfl rfl rfl rfl overQ setQ ?_) | refine WL.step rfl (StepTo.storeRow 4 rfl rfl rfl rfl rfl rfl rfl rfl (by omega) setQ ?_) | refine WL.step rfl (StepTo.store1 5 rfl rfl rfl rfl rfl rfl rfl overQ setQ ?_) | refine WL.step rfl (StepTo.storeA 5 rfl rfl rfl rfl rfl rfl rfl rfl overQ setQ ?_) | refine WL.step rfl (StepTo.storeRow 5 rfl rfl rfl rfl rfl rfl rfl rfl (by omega) setQ ?_) | refine WL.step rfl (StepTo.store1 6 rfl rfl rfl rfl rfl rfl rfl overQ setQ ?_) | refine WL.step rfl (StepTo.storeA 6 rfl rfl rfl rfl rfl rfl rfl rfl overQ setQ ?_) | refine WL.step rfl (StepTo.storeRow 6 rfl rfl rfl rfl rfl rfl rfl rfl (by omega) setQ ?_) | refine WL.step rfl (StepTo.store1 7 rfl rfl rfl rfl rfl rfl rfl overQ setQ ?_) | refine WL.step rfl (StepTo.storeA 7 rfl rfl rfl rfl rfl rfl rfl rfl overQ setQ ?_) | refine WL.step rfl (StepTo.storeRow 7 rfl rfl rfl rfl rfl rfl rfl rfl (by omega) setQ ?_) | refine WL.step rfl (StepTo.store1 8 rfl rfl rfl rfl rfl rfl rfl overQ setQ ?_) | refine WL.step rfl (StepTo.storeA 8 rfl rfl rfl rfl rfl rfl rfl rfl overQ setQ ?_) | refine WL.step rfl (StepTo.storeRow 8 rfl rfl rfl rfl rfl rfl rfl rfl (by omega) setQ ?_) | refine WL.step rfl (StepTo.store1 9 rfl rfl rfl rfl rfl rfl rfl overQ setQ ?_) | refine WL.step rfl (StepTo.storeA 9 rfl rfl rfl rfl rfl rfl rfl rfl overQ setQ ?_) | refine WL.step rfl (StepTo.storeRow 9 rfl rfl rfl rfl rfl rfl rfl rfl (by omega) setQ ?_) | refine WL.step rfl (StepTo.store1 10 rfl rfl rfl rfl rfl rfl rfl overQ setQ ?_) | refine WL.step rfl (StepTo.storeA 10 rfl rfl rfl rfl rfl rfl rfl rfl overQ setQ ?_) | refine WL.step rfl (StepTo.storeRow 10 rfl rfl rfl rfl rfl rfl rfl rfl (by omega) setQ ?_) | refine WL.step rfl (StepTo.store1 11 rfl rfl rfl rfl rfl rfl rfl overQ setQ ?_) | refine WL.step rfl (StepTo.storeA 11 rfl rfl rfl rfl rfl rfl rfl rfl overQ setQ ?_) | refine WL.step rfl (StepTo.storeRow 11 rfl rfl rfl rfl rfl rfl rfl rfl (by omega) setQ ?_))
    | ((with_reducible refine WL.isN_bslice ?_); first | refine WL.step rfl (StepTo.buildSlice rfl rfl rfl rfl rfl rfl rfl rfl rfl rfl cellsOfQ (fun _ => ?_)))
    | with_reducible refine WC.block ?_
    | with_reducible refine WC.scope ?_
    | with_reducible refine WC.label ?_
    | with_reducible refine WQ.ngN ?_
    | with_reducible refine WQ.ngR ?_
    | with_reducible refine WQ.ngX ?_
    | with_reducible refine WC.skip ?_
    | with_reducible refine WC.ret ?_
    | with_reducible refine WC.exit ?_
    | with_reducible refine WQ.thenR ?_
    | with_reducible refine WQ.thenX ?_
    | with_reducible refine WQ.blkN ?_
    | with_reducible refine WQ.blkR ?_
    | ((with_reducible refine WQ.blkX ?_ ?_); focus rfl)
    | ((with_reducible refine WQ.blkY ?_ ?_); focus rfl)
    | refine WC.condT rfl ?_
    | refine WC.condF rfl ?_
    | refine WC.condTh rfl gdQ ?_
    | refine WC.condFh rfl gdQ ?_
    | (refine WC.cond rfl (fun hc => ?_) (fun hc => ?_) <;> (try first | (with_reducible replace hc := of_decide_eq_true hc) | (with_reducible replace hc := of_decide_eq_false hc) | (with_reducible replace hc := eqT hc) | (with_reducible replace hc := eqF hc) | (with_reducible replace hc := neT hc) | (with_reducible replace hc := neF hc) | (with_reducible replace hc := noT hc) | (with_reducible replace hc := noF hc)) <;> (try (exfalso; omega))))
      rename_i bp
      refine WC.cut (fun τ H => τ = [(1, .int .i64 path), (2, .pointer (some ⟨bs, 0, none⟩)), (4, .pointer (some ⟨br, 0, none⟩)), (6, .slice A' m c'), (8, .pointer (some ⟨bp, 0, none⟩)), (14, .slice (some ⟨b7, 0, none⟩) ps.length c7), (15, .int .i64 ps.length), (16, .int .i64 i)] ∧
          H = [.row A' m c' 22 1 (flat u32c (dropT path (ps.take i))), .row (some ⟨b7, 0, none⟩) ps.length c7 41 7 (flat Pc.cs ((ps.map (drop1 path)).take (i + 1) ++ ps.drop (i + 1))), .box bs 25 [.int .u32 cum, .slice (some ⟨b7, 0, none⟩) ps.length c7], .box br 25 [.int .u32 0, .slice none 0 0],
            .box bp 41 [.int .u32 p.tsn, .int .i64 p.size, .int .i64 p.state, .int .i64 p.misses, .int .i64 p.times, .int .i64 p.path, .int .i64 p.at_]]) ?_ ?_
      refine WC.anyI [3] (by kernel_rfl) ?_
      refine WA.take (idx := [3]) 0 rfl (by kernel_rfl) (by kernel_rfl) (by kernel_rfl) rfl ⟨by decide, rfl⟩ (Yld.fieldAddr rfl rfl rfl rfl rfl rfl rfl) ?_
      refine WA.take (idx := [3]) 1 rfl (by kernel_rfl) (by kernel_rfl) (by kernel_rfl) rfl ⟨by decide, rfl⟩ (by first | exact Yld.load rfl rfl rfl rfl cellQ | exact Yld.loadAgg rfl rfl rfl rfl rfl aggQ) ?_
      refine WA.take (idx := [3]) 2 rfl (by kernel_rfl) (by kernel_rfl) (by kernel_rfl) rfl ⟨by decide, rfl⟩ (Yld.pure rfl nrmQ) ?_
      refine WA.take (idx := [3]) 3 rfl (by kernel_rfl) (by kernel_rfl) (by kernel_rfl) rfl ⟨by decide, rfl⟩ (Yld.fieldAddr rfl rfl rfl rfl rfl rfl rfl) ?_
      refine WA.take (idx := [3]) 4 rfl (by kernel_rfl) (by kernel_rfl) (by kernel_rfl) rfl ⟨by decide, rfl⟩ (by first | exact Yld.load rfl rfl rfl rfl cellQ | exact Yld.loadAgg rfl rfl rfl rfl rfl aggQ) ?_
      refine WA.take (idx := [3]) 5 rfl (by kernel_rfl) (by kernel_rfl) (by kernel_rfl) rfl ⟨by decide, rfl⟩ (Yld.pure rfl nrmQ) ?_
      refine WA.take (idx := [3]) 6 rfl (by kernel_rfl) (by kernel_rfl) (by kernel_rfl) rfl ⟨by decide, rfl⟩ (by first | exact Yld.indexS 0 rfl rfl rfl rfl rfl rfl (by omega) | exact Yld.indexS 1 rfl rfl rfl rfl rfl rfl (by omega) | exact Yld.indexS 2 rfl rfl rfl rfl rfl rfl (by omega) | exact Yld.indexS _ rfl rfl rfl rfl rfl rfl (by omega) | exact Yld.indexA 0 rfl rfl rfl rfl rfl rfl (by omega) | exact Yld.indexA 1 rfl rfl rfl rfl rfl rfl (by omega) | exact Yld.indexA _ rfl rfl rfl rfl rfl rfl (by omega)) ?_
      refine WA.take (idx := [3]) 7 rfl (by kernel_rfl) (by kernel_rfl) (by kernel_rfl) rfl ⟨by decide, rfl⟩ (Yld.fieldAddr rfl rfl rfl rfl rfl rfl rfl) ?_
      refine WA.one 8 (by kernel_rfl) rfl rfl ?_
      first | refine StepTo.store1 0 rfl rfl rfl rfl rfl rfl rfl overQ setQ ⟨⟨[3], by decide, rfl⟩, ?_⟩ | refine StepTo.storeA 0 rfl rfl rfl rfl rfl rfl rfl rfl overQ setQ ⟨⟨[3], by decide, rfl⟩, ?_⟩ | refine StepTo.storeRow 0 rfl rfl rfl rfl rfl rfl rfl rfl (by omega) setQ ⟨⟨[3], by decide, rfl⟩, ?_⟩ | refine StepTo.store1 1 rfl rfl rfl rfl rfl rfl rfl overQ setQ ⟨⟨[3], by decide, rfl⟩, ?_⟩ | refine StepTo.storeA 1 rfl rfl rfl rfl rfl rfl rfl rfl overQ setQ ⟨⟨[3], by decide, rfl⟩, ?_⟩ | refine StepTo.storeRow 1 rfl rfl rfl rfl rfl rfl rfl rfl (by omega) setQ ⟨⟨[3], by decide, rfl⟩, ?_⟩ | refine StepTo.store1 2 rfl rfl rfl rfl rfl rfl rfl overQ setQ ⟨⟨[3], by decide, rfl⟩, ?_⟩ | refine StepTo.storeA 2 rfl rfl rfl rfl rfl rfl rfl rfl overQ setQ ⟨⟨[3], by decide, rfl⟩, ?_⟩ | refine StepTo.storeRow 2 rfl rfl rfl rfl rfl rfl rfl rfl (by omega) setQ ⟨⟨[3], by decide, rfl⟩, ?_⟩ | refine StepTo.store1 3 rfl rfl rfl rfl rfl rfl rfl overQ setQ ⟨⟨[3], by decide, rfl⟩, ?_⟩ | refine StepTo.storeA 3 rfl rfl rfl rfl rfl rfl rfl rfl overQ setQ ⟨⟨[3], by decide, rfl⟩, ?_⟩ | refine StepTo.storeRow 3 rfl rfl rfl rfl rfl rfl rfl rfl (by omega) setQ ⟨⟨[3], by decide, rfl⟩, ?_⟩ | refine StepTo.store1 4 rfl rfl rfl rfl rfl rfl rfl overQ setQ ⟨⟨[3], by decide, rfl⟩, ?_⟩ | refine StepTo.storeA 4 rfl rfl rfl rfl rfl rfl rfl rfl overQ setQ ⟨⟨[3], by decide, rfl⟩, ?_⟩ | refine StepTo.storeRow 4 rfl rfl rfl rfl rfl rfl rfl rfl (by omega) setQ ⟨⟨[3], by decide, rfl⟩, ?_⟩
      refine WA.take (idx := [3]) 9 rfl (by kernel_rfl) (by kernel_rfl) (by kernel_rfl) rfl ⟨by decide, rfl⟩ (by first | exact Yld.indexS 0 rfl rfl rfl rfl rfl rfl (by omega) | exact Yld.indexS 1 rfl rfl rfl rfl rfl rfl (by omega) | exact Yld.indexS 2 rfl rfl rfl rfl rfl rfl (by omega) | exact Yld.indexS _ rfl rfl rfl rfl rfl rfl (by omega) | exact Yld.indexA 0 rfl rfl rfl rfl rfl rfl (by omega) | exact Yld.indexA 1 rfl rfl rfl rfl rfl rfl (by omega) | exact Yld.indexA _ rfl rfl rfl rfl rfl rfl (by omega)) ?_
      refine WA.take (idx := [3]) 10 rfl (by kernel_rfl) (by kernel_rfl) (by kernel_rfl) rfl ⟨by decide, rfl⟩ (Yld.fieldAddr rfl rfl rfl rfl rfl rfl rfl) ?_
      refine WA.one 11 (by kernel_rfl) rfl rfl ?_
      first | refine StepTo.store1 0 rfl rfl rfl rfl rfl rfl rfl overQ setQ ⟨⟨[3], by decide, rfl⟩, ?_⟩ | refine StepTo.storeA 0 rfl rfl rfl rfl rfl rfl rfl rfl overQ setQ ⟨⟨[3], by decide, rfl⟩, ?_⟩ | refine StepTo.storeRow 0 rfl rfl rfl rfl rfl rfl rfl rfl (by omega) setQ ⟨⟨[3], by decide, rfl⟩, ?_⟩ | refine StepTo.store1 1 rfl rfl rfl rfl rfl rfl rfl overQ setQ ⟨⟨[3], by decide, rfl⟩, ?_⟩ | refine StepTo.storeA 1 rfl rfl rfl rfl rfl rfl rfl rfl overQ setQ ⟨⟨[3], by decide, rfl⟩, ?_⟩ | refine StepTo.storeRow 1 rfl rfl rfl rfl rfl rfl rfl rfl (by omega) setQ ⟨⟨[3], by decide, rfl⟩, ?_⟩ | refine StepTo.store1 2 rfl rfl rfl rfl rfl rfl rfl overQ setQ ⟨⟨[3], by decide, rfl⟩, ?_⟩ | refine StepTo.storeA 2 rfl rfl rfl rfl rfl rfl rfl rfl overQ setQ ⟨⟨[3], by decide, rfl⟩, ?_⟩ | refine StepTo.storeRow 2 rfl rfl rfl rfl rfl rfl rfl rfl (by omega) setQ ⟨⟨[3], by decide, rfl⟩, ?_⟩ | refine StepTo.store1 3 rfl rfl rfl rfl rfl rfl rfl overQ setQ ⟨⟨[3], by decide, rfl⟩, ?_⟩ | refine StepTo.storeA 3 rfl rfl rfl rfl rfl rfl rfl rfl overQ setQ ⟨⟨[3], by decide, rfl⟩, ?_⟩ | refine StepTo.storeRow 3 rfl rfl rfl rfl rfl rfl rfl rfl (by omega) setQ ⟨⟨[3], by decide, rfl⟩, ?_⟩ | refine StepTo.store1 4 rfl rfl rfl rfl rfl rfl rfl overQ setQ ⟨⟨[3], by decide, rfl⟩, ?_⟩ | refine StepTo.storeA 4 rfl rfl rfl rfl rfl rfl rfl rfl overQ setQ ⟨⟨[3], by decide, rfl⟩, ?_⟩ | refine StepTo.storeRow 4 rfl rfl rfl rfl rfl rfl rfl rfl (by omega) setQ ⟨⟨[3], by decide, rfl⟩, ?_⟩
      refine WA.done (by kernel_rfl) ?_
      first | rw [hA2] | rw [hB2]
      exact WQ.thenN (WQ.met _ _ [1, 2, 3, 4, 0] (by repeat (first | exact Sub.nil | refine Sub.cons rfl ?_ | refine Sub.consE rfl (int_eq (by omega)) ?_)) ⟨by decide, rfl⟩ ⟨rfl, rfl⟩)
      rintro τ H ⟨rfl, rfl⟩
      repeat' (first
    | with_reducible refine WL.nil ?_
    | with_reducible refine WQ.thenN ?_
    | with_reducible refine WQ.code ?_
    | with_reducible refine WC.seq ?_
    | with_reducible refine WC.region ?_
    | ((with_reducible refine WL.isN_move ?_); first | refine WL.yld rfl (Yld.pure rfl nrmQ) ?_)
    | ((with_reducible refine WL.isN_assign ?_); first | refine WL.yld rfl (Yld.pure rfl nrmQ) ?_)
    | ((with_reducible refine WL.isN_bin ?_); first | refine WL.yld rfl (Yld.pure rfl nrmQ) ?_ | refine WL.yld rfl (Yld.rem rfl rfl rfl rfl (by omega) (by omega)) ?_ | refine WL.yld rfl (Yld.quo rfl rfl rfl rfl (by omega) (by omega) nrmQ) ?_ | refine WL.yld rfl (Yld.eqlB rfl rfl rfl rfl) ?_ | refine WL.yld rfl (Yld.neqB rfl rfl rfl rfl) ?_ | refine WL.yld rfl (Yld.eqlA 4 rfl rfl rfl (by kernel_rfl) (by kernel_rfl) rfl rfl) ?_ | refine WL.yld rfl (Yld.neqA 4 rfl rfl rfl (by kernel_rfl) (by kernel_rfl) rfl rfl) ?_ | refine WL.yld rfl (Yld.quoT rfl rfl rfl rfl (by omega) nrmQ) ?_)
    | ((with_reducible refine WL.isN_load ?_); first | refine WL.yld rfl (Yld.load rfl rfl rfl rfl cellQ) ?_ | refine WL.yld rfl (Yld.loadAgg rfl rfl rfl rfl rfl aggQ) ?_)
    | ((with_reducible refine WL.isN_faddr ?_); first | refine WL.yld rfl (Yld.fieldAddr rfl rfl rfl rfl rfl rfl rfl) ?_)
    | ((with_reducible refine WL.isN_iaddr ?_); first | refine WL.yld rfl (Yld.indexS 0 rfl rfl rfl rfl rfl rfl (by omega)) ?_ | refine WL.yld rfl (Yld.indexS 1 rfl rfl rfl rfl rfl rfl (by omega)) ?_ | refine WL.yld rfl (Yld.indexS 2 rfl rfl rfl rfl rfl rfl (by omega)) ?_ | refine WL.yld rfl (Yld.indexS _ rfl rfl rfl rfl rfl rfl (by omega)) ?_ | refine WL.yld rfl (Yld.indexA 0 rfl rfl rfl rfl rfl rfl (by omega)) ?_ | refine WL.yld rfl (Yld.indexA 1 rfl rfl rfl rfl rfl rfl (by omega)) ?_ | refine WL.yld rfl (Yld.indexA _ rfl rfl rfl rfl rfl rfl (by omega)) ?_)
    | ((with_reducible refine WL.isN_call ?_); first | refine WL.step rfl (StepTo.appendTo 1 (flat u32c (dropT path (ps.take (i + 1)))) rfl rfl rfl rfl rfl rfl rfl rfl rfl rfl rfl rfl (CellsAt.boxAll 0 rfl) rfl rfl (by omega) hfa (fun _ _ => ⟨_, setQ, ?_⟩)) | refine WL.yld rfl (Yld.lenSlice rfl rfl rfl) ?_ | refine WL.yld rfl (Yld.lenStr rfl rfl rfl) ?_ | refine WL.step rfl (StepTo.append 0 rfl rfl rfl rfl rfl rfl rfl rfl rfl rfl rfl rfl (by first | exact CellsAt.boxAll 0 rfl | exact CellsAt.boxAll 1 rfl | exact CellsAt.boxAll 2 rfl | exact CellsAt.boxAll 3 rfl | exact CellsAt.boxAll 4 rfl) rfl rfl (by omega) (fun _ _ => ⟨_, setQ, ?_⟩)) | refine WL.step rfl (StepTo.append 1 rfl rfl rfl rfl rfl rfl rfl rfl rfl rfl rfl rfl (by first | exact CellsAt.boxAll 0 rfl | exact CellsAt.boxAll 1 rfl | exact CellsAt.boxAll 2 rfl | exact CellsAt.boxAll 3 rfl | exact CellsAt.boxAll 4 rfl) rfl rfl (by omega) (fun _ _ => ⟨_, setQ, ?_⟩)) | refine WL.step rfl (StepTo.append 2 rfl rfl rfl rfl rfl rfl rfl rfl rfl rfl rfl rfl (by first | exact CellsAt.boxAll 0 rfl | exact CellsAt.boxAll 1 rfl | exact CellsAt.boxAll 2 rfl | exact CellsAt.boxAll 3 rfl | exact CellsAt.boxAll 4 rfl) rfl rfl (by omega) (fun _ _ => ⟨_, setQ, ?_⟩)) | refine WL.step rfl (StepTo.append 3 rfl rfl rfl rfl rfl rfl rfl rfl rfl rfl rfl rfl (by first | exact CellsAt.boxAll 0 rfl | exact CellsAt.boxAll 1 rfl | exact CellsAt.boxAll 2 rfl | exact CellsAt.boxAll 3 rfl | exact CellsAt.boxAll 4 rfl) rfl rfl (by omega) (fun _ _ => ⟨_, setQ, ?_⟩)) | refine WL.step rfl (StepTo.append 4 rfl rfl rfl rfl rfl rfl rfl rfl rfl rfl rfl rfl (by first | exact CellsAt.boxAll 0 rfl | exact CellsAt.boxAll 1 rfl | exact CellsAt.boxAll 2 rfl | exact CellsAt.boxAll 3 rfl | exact CellsAt.boxAll 4 rfl) rfl rfl (by omega) (fun _ _ => ⟨_, setQ, ?_⟩)) | refine WL.step rfl (StepTo.append 5 rfl rfl rfl rfl rfl rfl rfl rfl rfl rfl rfl rfl (by first | exact CellsAt.boxAll 0 rfl | exact CellsAt.boxAll 1 rfl | exact CellsAt.boxAll 2 rfl | exact CellsAt.boxAll 3 rfl | exact CellsAt.boxAll 4 rfl) rfl rfl (by omega) (fun _ _ => ⟨_, setQ, ?_⟩)) | refine WL.step rfl (StepTo.append 6 rfl rfl rfl rfl rfl rfl rfl rfl rfl rfl rfl rfl (by first | exact CellsAt.boxAll 0 rfl | exact CellsAt.boxAll 1 rfl | exact CellsAt.boxAll 2 rfl | exact CellsAt.boxAll 3 rfl | exact CellsAt.boxAll 4 rfl) rfl rfl (by omega) (fun _ _ => ⟨_, setQ, ?_⟩)))
    | ((with_reducible refine WL.isN_box ?_); first | refine WL.step rfl (StepTo.boxA rfl rfl rfl rfl (fun _ => ?_)) | refine WL.step rfl (StepTo.box1 rfl rfl rfl rfl rfl (fun _ => ?_)))
    | ((with_reducible refine WL.isN_alloc ?_); first | refine WL.step rfl (StepTo.allocA rfl rfl rfl rfl (fun _ => ?_)) | refine WL.step rfl (StepTo.alloc1 rfl rfl rfl rfl rfl (fun _ => ?_)))
    | ((with_reducible refine WL.isN_store ?_); first | refine WL.step rfl (StepTo.store1 0 rfl rfl rfl rfl rfl rfl rfl overQ setQ ?_) | refine WL.step rfl (StepTo.storeA 0 rfl rfl rfl rfl rfl rfl rfl rfl overQ setQ ?_) | refine WL.step rfl (StepTo.storeRow 0 rfl rfl rfl rfl rfl rfl rfl rfl (by omega) setQ ?_) | refine WL.step rfl (StepTo.store1 1 rfl rfl rfl rfl rfl rfl rfl overQ setQ ?_) | refine WL.step rfl (StepTo.storeA 1 rfl rfl rfl rfl rfl rfl rfl rfl overQ setQ ?_) | refine WL.step rfl (StepTo.storeRow 1 rfl rfl rfl rfl rfl rfl rfl rfl (by omega) setQ ?_) | refine WL.step rfl (StepTo.store1 2 rfl rfl rfl rfl rfl rfl rfl overQ setQ ?_) | refine WL.step rfl (StepTo.storeA 2 rfl rfl rfl rfl rfl rfl rfl rfl overQ setQ ?_) | refine WL.step rfl (StepTo.storeRow 2 rfl rfl rfl rfl rfl rfl rfl rfl (by omega) setQ ?_) | refine WL.step rfl (StepTo.store1 3 rfl rfl rfl rfl rfl rfl rfl overQ setQ ?_) | refine WL.step rfl (StepTo.storeA 3 rfl rfl rfl rfl rfl rfl rfl rfl overQ setQ ?_) | refine WL.step rfl (StepTo.storeRow 3 rfl rfl rfl rfl rfl rfl rfl rfl (by omega) setQ ?_) | refine WL.step rfl (StepTo.store1 4 rfl rfl rfl rfl rfl rfl rfl overQ setQ ?_) | refine WL.step rfl (StepTo.storeA 4 rfl rfl rfl rfl rfl rfl rfl rfl overQ setQ ?_) | refine WL.step rfl (StepTo.storeRow 4 rfl rfl rfl rfl rfl rfl rfl rfl (by omega) setQ ?_) | refine WL.step rfl (StepTo.store1 5 rfl rfl rfl rfl rfl rfl rfl overQ setQ ?_) | refine WL.step rfl (StepTo.storeA 5 rfl rfl rfl rfl rfl rfl rfl rfl overQ setQ ?_) | refine WL.step rfl (StepTo.storeRow 5 rfl rfl rfl rfl rfl rfl rfl rfl (by omega) setQ ?_) | refine WL.step rfl (StepTo.store1 6 rfl rfl rfl rfl rfl rfl rfl overQ setQ ?_) | refine WL.step rfl (StepTo.storeA 6 rfl rfl rfl rfl rfl rfl rfl rfl overQ setQ ?_) | refine WL.step rfl (StepTo.storeRow 6 rfl rfl rfl rfl rfl rfl rfl rfl (by omega) setQ ?_) | refine WL.step rfl (StepTo.store1 7 rfl rfl rfl rfl rfl rfl rfl overQ setQ ?_) | refine WL.step rfl (StepTo.storeA 7 rfl rfl rfl rfl rfl rfl rfl rfl overQ setQ ?_) | refine WL.step rfl (StepTo.storeRow 7 rfl rfl rfl rfl rfl rfl rfl rfl (by omega) setQ ?_) | refine WL.step rfl (StepTo.store1 8 rfl rfl rfl rfl rfl rfl rfl overQ setQ ?_) | refine WL.step rfl (StepTo.storeA 8 rfl rfl rfl rfl rfl rfl rfl rfl overQ setQ ?_) | refine WL.step rfl (StepTo.storeRow 8 rfl rfl rfl rfl rfl rfl rfl rfl (by omega) setQ ?_) | refine WL.step rfl (StepTo.store1 9 rfl rfl rfl rfl rfl rfl rfl overQ setQ ?_) | refine WL.step rfl (StepTo.storeA 9 rfl rfl rfl rfl rfl rfl rfl rfl overQ setQ ?_) | refine WL.step rfl (StepTo.storeRow 9 rfl rfl rfl rfl rfl rfl rfl rfl (by omega) setQ ?_) | refine WL.step rfl (StepTo.store1 10 rfl rfl rfl rfl rfl rfl rfl overQ setQ ?_) | refine WL.step rfl (StepTo.storeA 10 rfl rfl rfl rfl rfl rfl rfl rfl overQ setQ ?_) | refine WL.step rfl (StepTo.storeRow 10 rfl rfl rfl rfl rfl rfl rfl rfl (by omega) setQ ?_) | refine WL.step rfl (StepTo.store1 11 rfl rfl rfl rfl rfl rfl rfl overQ setQ ?_) | refine WL.step rfl (StepTo.storeA 11 rfl rfl rfl rfl rfl rfl rfl rfl overQ setQ ?_) | refine WL.step rfl (StepTo.storeRow 11 rfl rfl rfl rfl rfl rfl rfl rfl (by omega) setQ ?_))
    | ((with_reducible refine WL.isN_bslice ?_); first | refine WL.step rfl (StepTo.buildSlice rfl rfl rfl rfl rfl rfl rfl rfl rfl rfl cellsOfQ (fun _ => ?_)))
    | with_reducible refine WC.block ?_
    | with_reducible refine WC.scope ?_
    | with_reducible refine WC.label ?_
    | with_reducible refine WQ.ngN ?_
    | with_reducible refine WQ.ngR ?_
    | with_reducible refine WQ.ngX ?_
    | with_reducible refine WC.skip ?_
    | with_reducible refine WC.ret ?_
    | with_reducible refine WC.exit ?_
    | with_reducible refine WQ.thenR ?_
    | with_reducible refine WQ.thenX ?_
    | with_reducible refine WQ.blkN ?_
    | with_reducible refine WQ.blkR ?_
    | ((with_reducible refine WQ.blkX ?_ ?_); focus rfl)
    | ((with_reducible refine WQ.blkY ?_ ?_); focus rfl)
    | refine WC.condT rfl ?_
    | refine WC.condF rfl ?_
    | refine WC.condTh rfl gdQ ?_
    | refine WC.condFh rfl gdQ ?_
    | (refine WC.cond rfl (fun hc => ?_) (fun hc => ?_) <;> (try first | (with_reducible replace hc := of_decide_eq_true hc) | (with_reducible replace hc := of_decide_eq_false hc) | (with_reducible replace hc := eqT hc) | (with_reducible replace hc := eqF hc) | (with_reducible replace hc := neT hc) | (with_reducible replace hc := neF hc) | (with_reducible replace hc := noT hc) | (with_reducible replace hc := noF hc)) <;> (try (exfalso; omega))))
      exact WQ.rnd (ps.length - (i + 1)) _ _ [1, 2, 3, 4] (by repeat (first | exact Sub.nil | refine Sub.cons rfl ?_ | refine Sub.consE rfl (int_eq (by omega)) ?_)) ⟨by decide, rfl⟩ (by omega) ⟨i + 1, m + 1, _, _, by omega, rfl, by rw [ht, hmm, List.length_append]; rfl, by omega, rfl, rfl⟩
    | false =>
      have e1 : drop1 path p = p := by simp [drop1, ho]
      rw [e1, set_same _ _ _ hmid] at hset
      rw [ho, if_neg (by simp), List.append_nil] at ht
      repeat' (first
    | with_reducible refine WL.nil ?_
    | with_reducible refine WQ.thenN ?_
    | with_reducible refine WQ.code ?_
    | with_reducible refine WC.seq ?_
    | with_reducible refine WC.region ?_
    | ((with_reducible refine WL.isN_move ?_); first | refine WL.yld rfl (Yld.pure rfl nrmQ) ?_)
    | ((with_reducible refine WL.isN_assign ?_); first | refine WL.yld rfl (Yld.pure rfl nrmQ) ?_)
    | ((with_reducible refine WL.isN_bin ?_); first | refine WL.yld rfl (Yld.pure rfl nrmQ) ?_ | refine WL.yld rfl (Yld.rem rfl rfl rfl rfl (by omega) (by omega)) ?_ | refine WL.yld rfl (Yld.quo rfl rfl rfl rfl (by omega) (by omega) nrmQ) ?_ | refine WL.yld rfl (Yld.eqlB rfl rfl rfl rfl) ?_ | refine WL.yld rfl (Yld.neqB rfl rfl rfl rfl) ?_ | refine WL.yld rfl (Yld.eqlA 4 rfl rfl rfl (by kernel_rfl) (by kernel_rfl) rfl rfl) ?_ | refine WL.yld rfl (Yld.neqA 4 rfl rfl rfl (by kernel_rfl) (by kernel_rfl) rfl rfl) ?_ | refine WL.yld rfl (Yld.quoT rfl rfl rfl rfl (by omega) nrmQ) ?_)
    | ((with_reducible refine WL.isN_load ?_); first | refine WL.yld rfl (Yld.load rfl rfl rfl rfl cellQ) ?_ | refine WL.yld rfl (Yld.loadAgg rfl rfl rfl rfl rfl aggQ) ?_)
    | ((with_reducible refine WL.isN_faddr ?_); first | refine WL.yld rfl (Yld.fieldAddr rfl rfl rfl rfl rfl rfl rfl) ?_)
    | ((with_reducible refine WL.isN_iaddr ?_); first | refine WL.yld rfl (Yld.indexS 0 rfl rfl rfl rfl rfl rfl (by omega)) ?_ | refine WL.yld rfl (Yld.indexS 1 rfl rfl rfl rfl rfl rfl (by omega)) ?_ | refine WL.yld rfl (Yld.indexS 2 rfl rfl rfl rfl rfl rfl (by omega)) ?_ | refine WL.yld rfl (Yld.indexS _ rfl rfl rfl rfl rfl rfl (by omega)) ?_ | refine WL.yld rfl (Yld.indexA 0 rfl rfl rfl rfl rfl rfl (by omega)) ?_ | refine WL.yld rfl (Yld.indexA 1 rfl rfl rfl rfl rfl rfl (by omega)) ?_ | refine WL.yld rfl (Yld.indexA _ rfl rfl rfl rfl rfl rfl (by omega)) ?_)
    | ((with_reducible refine WL.isN_call ?_); first | refine WL.step rfl (StepTo.callV (v := .bool false) (us := [.agg #[.int .u32 p.tsn, .int .i64 p.size, .int .i64 p.state, .int .i64 p.misses, .int .i64 p.times, .int .i64 p.path, .int .i64 p.at_], .int .i64 path]) rfl rfl rfl rfl rfl (by kernel_rfl) (fun w _ => ho ▸ out_q p path w) ?_) | refine WL.yld rfl (Yld.lenSlice rfl rfl rfl) ?_ | refine WL.yld rfl (Yld.lenStr rfl rfl rfl) ?_ | refine WL.step rfl (StepTo.append 0 rfl rfl rfl rfl rfl rfl rfl rfl rfl rfl rfl rfl (by first | exact CellsAt.boxAll 0 rfl | exact CellsAt.boxAll 1 rfl | exact CellsAt.boxAll 2 rfl | exact CellsAt.boxAll 3 rfl | exact CellsAt.boxAll 4 rfl) rfl rfl (by omega) (fun _ _ => ⟨_, setQ, ?_⟩)) | refine WL.step rfl (StepTo.append 1 rfl rfl rfl rfl rfl rfl rfl rfl rfl rfl rfl rfl (by first | exact CellsAt.boxAll 0 rfl | exact CellsAt.boxAll 1 rfl | exact CellsAt.boxAll 2 rfl | exact CellsAt.boxAll 3 rfl | exact CellsAt.boxAll 4 rfl) rfl rfl (by omega) (fun _ _ => ⟨_, setQ, ?_⟩)) | refine WL.step rfl (StepTo.append 2 rfl rfl rfl rfl rfl rfl rfl rfl rfl rfl rfl rfl (by first | exact CellsAt.boxAll 0 rfl | exact CellsAt.boxAll 1 rfl | exact CellsAt.boxAll 2 rfl | exact CellsAt.boxAll 3 rfl | exact CellsAt.boxAll 4 rfl) rfl rfl (by omega) (fun _ _ => ⟨_, setQ, ?_⟩)) | refine WL.step rfl (StepTo.append 3 rfl rfl rfl rfl rfl rfl rfl rfl rfl rfl rfl rfl (by first | exact CellsAt.boxAll 0 rfl | exact CellsAt.boxAll 1 rfl | exact CellsAt.boxAll 2 rfl | exact CellsAt.boxAll 3 rfl | exact CellsAt.boxAll 4 rfl) rfl rfl (by omega) (fun _ _ => ⟨_, setQ, ?_⟩)) | refine WL.step rfl (StepTo.append 4 rfl rfl rfl rfl rfl rfl rfl rfl rfl rfl rfl rfl (by first | exact CellsAt.boxAll 0 rfl | exact CellsAt.boxAll 1 rfl | exact CellsAt.boxAll 2 rfl | exact CellsAt.boxAll 3 rfl | exact CellsAt.boxAll 4 rfl) rfl rfl (by omega) (fun _ _ => ⟨_, setQ, ?_⟩)) | refine WL.step rfl (StepTo.append 5 rfl rfl rfl rfl rfl rfl rfl rfl rfl rfl rfl rfl (by first | exact CellsAt.boxAll 0 rfl | exact CellsAt.boxAll 1 rfl | exact CellsAt.boxAll 2 rfl | exact CellsAt.boxAll 3 rfl | exact CellsAt.boxAll 4 rfl) rfl rfl (by omega) (fun _ _ => ⟨_, setQ, ?_⟩)) | refine WL.step rfl (StepTo.append 6 rfl rfl rfl rfl rfl rfl rfl rfl rfl rfl rfl rfl (by first | exact CellsAt.boxAll 0 rfl | exact CellsAt.boxAll 1 rfl | exact CellsAt.boxAll 2 rfl | exact CellsAt.boxAll 3 rfl | exact CellsAt.boxAll 4 rfl) rfl rfl (by omega) (fun _ _ => ⟨_, setQ, ?_⟩)))
    | ((with_reducible refine WL.isN_box ?_); first | refine WL.step rfl (StepTo.boxA rfl rfl rfl rfl (fun _ => ?_)) | refine WL.step rfl (StepTo.box1 rfl rfl rfl rfl rfl (fun _ => ?_)))
    | ((with_reducible refine WL.isN_alloc ?_); first | refine WL.step rfl (StepTo.allocA rfl rfl rfl rfl (fun _ => ?_)) | refine WL.step rfl (StepTo.alloc1 rfl rfl rfl rfl rfl (fun _ => ?_)))
    | ((with_reducible refine WL.isN_store ?_); first | refine WL.step rfl (StepTo.store1 0 rfl rfl rfl rfl rfl rfl rfl overQ setQ ?_) | refine WL.step rfl (StepTo.storeA 0 rfl rfl rfl rfl rfl rfl rfl rfl overQ setQ ?_) | refine WL.step rfl (StepTo.storeRow 0 rfl rfl rfl rfl rfl rfl rfl rfl (by omega) setQ ?_) | refine WL.step rfl (StepTo.store1 1 rfl rfl rfl rfl rfl rfl rfl overQ setQ ?_) | refine WL.step rfl (StepTo.storeA 1 rfl rfl rfl rfl rfl rfl rfl rfl overQ setQ ?_) | refine WL.step rfl (StepTo.storeRow 1 rfl rfl rfl rfl rfl rfl rfl rfl (by omega) setQ ?_) | refine WL.step rfl (StepTo.store1 2 rfl rfl rfl rfl rfl rfl rfl overQ setQ ?_) | refine WL.step rfl (StepTo.storeA 2 rfl rfl rfl rfl rfl rfl rfl rfl overQ setQ ?_) | refine WL.step rfl (StepTo.storeRow 2 rfl rfl rfl rfl rfl rfl rfl rfl (by omega) setQ ?_) | refine WL.step rfl (StepTo.store1 3 rfl rfl rfl rfl rfl rfl rfl overQ setQ ?_) | refine WL.step rfl (StepTo.storeA 3 rfl rfl rfl rfl rfl rfl rfl rfl overQ setQ ?_) | refine WL.step rfl (StepTo.storeRow 3 rfl rfl rfl rfl rfl rfl rfl rfl (by omega) setQ ?_) | refine WL.step rfl (StepTo.store1 4 rfl rfl rfl rfl rfl rfl rfl overQ setQ ?_) | refine WL.step rfl (StepTo.storeA 4 rfl rfl rfl rfl rfl rfl rfl rfl overQ setQ ?_) | refine WL.step rfl (StepTo.storeRow 4 rfl rfl rfl rfl rfl rfl rfl rfl (by omega) setQ ?_) | refine WL.step rfl (StepTo.store1 5 rfl rfl rfl rfl rfl rfl rfl overQ setQ ?_) | refine WL.step rfl (StepTo.storeA 5 rfl rfl rfl rfl rfl rfl rfl rfl overQ setQ ?_) | refine WL.step rfl (StepTo.storeRow 5 rfl rfl rfl rfl rfl rfl rfl rfl (by omega) setQ ?_) | refine WL.step rfl (StepTo.store1 6 rfl rfl rfl rfl rfl rfl rfl overQ setQ ?_) | refine WL.step rfl (StepTo.storeA 6 rfl rfl rfl rfl rfl rfl rfl rfl overQ setQ ?_) | refine WL.step rfl (StepTo.storeRow 6 rfl rfl rfl rfl rfl rfl rfl rfl (by omega) setQ ?_) | refine WL.step rfl (StepTo.store1 7 rfl rfl rfl rfl rfl rfl rfl overQ setQ ?_) | refine WL.step rfl (StepTo.storeA 7 rfl rfl rfl rfl rfl rfl rfl rfl overQ setQ ?_) | refine WL.step rfl (StepTo.storeRow 7 rfl rfl rfl rfl rfl rfl rfl rfl (by omega) setQ ?_) | refine WL.step rfl (StepTo.store1 8 rfl rfl rfl rfl rfl rfl rfl overQ setQ ?_) | refine WL.step rfl (StepTo.storeA 8 rfl rfl rfl rfl rfl rfl rfl rfl overQ setQ ?_) | refine WL.step rfl (StepTo.storeRow 8 rfl rfl rfl rfl rfl rfl rfl rfl (by omega) setQ ?_) | refine WL.step rfl (StepTo.store1 9 rfl rfl rfl rfl rfl rfl rfl overQ setQ ?_) | refine WL.step rfl (StepTo.storeA 9 rfl rfl rfl rfl rfl rfl rfl rfl overQ setQ ?_) | refine WL.step rfl (StepTo.storeRow 9 rfl rfl rfl rfl rfl rfl rfl rfl (by omega) setQ ?_) | refine WL.step rfl (StepTo.store1 10 rfl rfl rfl rfl rfl rfl rfl overQ setQ ?_) | refine WL.step rfl (StepTo.storeA 10 rfl rfl rfl rfl rfl rfl rfl rfl overQ setQ ?_) | refine WL.step rfl (StepTo.storeRow 10 rfl rfl rfl rfl rfl rfl rfl rfl (by omega) setQ ?_) | refine WL.step rfl (StepTo.store1 11 rfl rfl rfl rfl rfl rfl rfl overQ setQ ?_) | refine WL.step rfl (StepTo.storeA 11 rfl rfl rfl rfl rfl rfl rfl rfl overQ setQ ?_) | refine WL.step rfl (StepTo.storeRow 11 rfl rfl rfl rfl rfl rfl rfl rfl (by omega) setQ ?_))
    | ((with_reducible refine WL.isN_bslice ?_); first | refine WL.step rfl (StepTo.buildSlice rfl rfl rfl rfl rfl rfl rfl rfl rfl rfl cellsOfQ (fun _ => ?_)))
    | with_reducible refine WC.block ?_
    | with_reducible refine WC.scope ?_
    | with_reducible refine WC.label ?_
    | with_reducible refine WQ.ngN ?_
    | with_reducible refine WQ.ngR ?_
    | with_reducible refine WQ.ngX ?_
    | with_reducible refine WC.skip ?_
    | with_reducible refine WC.ret ?_
    | with_reducible refine WC.exit ?_
    | with_reducible refine WQ.thenR ?_
    | with_reducible refine WQ.thenX ?_
    | with_reducible refine WQ.blkN ?_
    | with_reducible refine WQ.blkR ?_
    | ((with_reducible refine WQ.blkX ?_ ?_); focus rfl)
    | ((with_reducible refine WQ.blkY ?_ ?_); focus rfl)
    | refine WC.condT rfl ?_
    | refine WC.condF rfl ?_
    | refine WC.condTh rfl gdQ ?_
    | refine WC.condFh rfl gdQ ?_
    | (refine WC.cond rfl (fun hc => ?_) (fun hc => ?_) <;> (try first | (with_reducible replace hc := of_decide_eq_true hc) | (with_reducible replace hc := of_decide_eq_false hc) | (with_reducible replace hc := eqT hc) | (with_reducible replace hc := eqF hc) | (with_reducible replace hc := neT hc) | (with_reducible replace hc := neF hc) | (with_reducible replace hc := noT hc) | (with_reducible replace hc := noF hc)) <;> (try (exfalso; omega))))
      rw [hset, ← ht]
      exact WQ.rnd (ps.length - (i + 1)) _ _ [1, 2, 3, 4] (by repeat (first | exact Sub.nil | refine Sub.cons rfl ?_ | refine Sub.consE rfl (int_eq (by omega)) ?_)) ⟨by decide, rfl⟩ (by omega) ⟨i + 1, m, A', c', by omega, rfl, by rw [ht, hmm], by omega, rfl, rfl⟩
  · have hti : ps.take i = ps := List.take_of_length_le (by omega)
    have htm : (ps.map (drop1 path)).take i ++ ps.drop i = ps.map (drop1 path) := by rw [List.take_of_length_le (by omega), List.drop_eq_nil_of_le (by omega), List.append_nil]
    rw [hti, htm]
    rw [hti] at hmm
    subst hmm
    refine WC.okRow 1 rfl fun hok => ?_
    repeat' (first
    | with_reducible refine WL.nil ?_
    | with_reducible refine WQ.thenN ?_
    | with_reducible refine WQ.code ?_
    | with_reducible refine WC.seq ?_
    | with_reducible refine WC.region ?_
    | ((with_reducible refine WL.isN_move ?_); first | refine WL.yld rfl (Yld.pure rfl nrmQ) ?_)
    | ((with_reducible refine WL.isN_assign ?_); first | refine WL.yld rfl (Yld.pure rfl nrmQ) ?_)
    | ((with_reducible refine WL.isN_bin ?_); first | refine WL.yld rfl (Yld.pure rfl nrmQ) ?_ | refine WL.yld rfl (Yld.rem rfl rfl rfl rfl (by omega) (by omega)) ?_ | refine WL.yld rfl (Yld.quo rfl rfl rfl rfl (by omega) (by omega) nrmQ) ?_ | refine WL.yld rfl (Yld.eqlB rfl rfl rfl rfl) ?_ | refine WL.yld rfl (Yld.neqB rfl rfl rfl rfl) ?_ | refine WL.yld rfl (Yld.eqlA 4 rfl rfl rfl (by kernel_rfl) (by kernel_rfl) rfl rfl) ?_ | refine WL.yld rfl (Yld.neqA 4 rfl rfl rfl (by kernel_rfl) (by kernel_rfl) rfl rfl) ?_ | refine WL.yld rfl (Yld.quoT rfl rfl rfl rfl (by omega) nrmQ) ?_)
    | ((with_reducible refine WL.isN_load ?_); first | refine WL.yld rfl (Yld.load rfl rfl rfl rfl cellQ) ?_ | refine WL.yld rfl (Yld.loadAgg rfl rfl rfl rfl rfl aggQ) ?_)
    | ((with_reducible refine WL.isN_faddr ?_); first | refine WL.yld rfl (Yld.fieldAddr rfl rfl rfl rfl rfl rfl rfl) ?_)
    | ((with_reducible refine WL.isN_iaddr ?_); first | refine WL.yld rfl (Yld.indexS 0 rfl rfl rfl rfl rfl rfl (by omega)) ?_ | refine WL.yld rfl (Yld.indexS 1 rfl rfl rfl rfl rfl rfl (by omega)) ?_ | refine WL.yld rfl (Yld.indexS 2 rfl rfl rfl rfl rfl rfl (by omega)) ?_ | refine WL.yld rfl (Yld.indexS _ rfl rfl rfl rfl rfl rfl (by omega)) ?_ | refine WL.yld rfl (Yld.indexA 0 rfl rfl rfl rfl rfl rfl (by omega)) ?_ | refine WL.yld rfl (Yld.indexA 1 rfl rfl rfl rfl rfl rfl (by omega)) ?_ | refine WL.yld rfl (Yld.indexA _ rfl rfl rfl rfl rfl rfl (by omega)) ?_)
    | ((with_reducible refine WL.isN_call ?_); first | refine WL.yld rfl (Yld.lenSlice rfl rfl rfl) ?_ | refine WL.yld rfl (Yld.lenStr rfl rfl rfl) ?_ | refine WL.step rfl (StepTo.append 0 rfl rfl rfl rfl rfl rfl rfl rfl rfl rfl rfl rfl (by first | exact CellsAt.boxAll 0 rfl | exact CellsAt.boxAll 1 rfl | exact CellsAt.boxAll 2 rfl | exact CellsAt.boxAll 3 rfl | exact CellsAt.boxAll 4 rfl) rfl rfl (by omega) (fun _ _ => ⟨_, setQ, ?_⟩)) | refine WL.step rfl (StepTo.append 1 rfl rfl rfl rfl rfl rfl rfl rfl rfl rfl rfl rfl (by first | exact CellsAt.boxAll 0 rfl | exact CellsAt.boxAll 1 rfl | exact CellsAt.boxAll 2 rfl | exact CellsAt.boxAll 3 rfl | exact CellsAt.boxAll 4 rfl) rfl rfl (by omega) (fun _ _ => ⟨_, setQ, ?_⟩)) | refine WL.step rfl (StepTo.append 2 rfl rfl rfl rfl rfl rfl rfl rfl rfl rfl rfl rfl (by first | exact CellsAt.boxAll 0 rfl | exact CellsAt.boxAll 1 rfl | exact CellsAt.boxAll 2 rfl | exact CellsAt.boxAll 3 rfl | exact CellsAt.boxAll 4 rfl) rfl rfl (by omega) (fun _ _ => ⟨_, setQ, ?_⟩)) | refine WL.step rfl (StepTo.append 3 rfl rfl rfl rfl rfl rfl rfl rfl rfl rfl rfl rfl (by first | exact CellsAt.boxAll 0 rfl | exact CellsAt.boxAll 1 rfl | exact CellsAt.boxAll 2 rfl | exact CellsAt.boxAll 3 rfl | exact CellsAt.boxAll 4 rfl) rfl rfl (by omega) (fun _ _ => ⟨_, setQ, ?_⟩)) | refine WL.step rfl (StepTo.append 4 rfl rfl rfl rfl rfl rfl rfl rfl rfl rfl rfl rfl (by first | exact CellsAt.boxAll 0 rfl | exact CellsAt.boxAll 1 rfl | exact CellsAt.boxAll 2 rfl | exact CellsAt.boxAll 3 rfl | exact CellsAt.boxAll 4 rfl) rfl rfl (by omega) (fun _ _ => ⟨_, setQ, ?_⟩)) | refine WL.step rfl (StepTo.append 5 rfl rfl rfl rfl rfl rfl rfl rfl rfl rfl rfl rfl (by first | exact CellsAt.boxAll 0 rfl | exact CellsAt.boxAll 1 rfl | exact CellsAt.boxAll 2 rfl | exact CellsAt.boxAll 3 rfl | exact CellsAt.boxAll 4 rfl) rfl rfl (by omega) (fun _ _ => ⟨_, setQ, ?_⟩)) | refine WL.step rfl (StepTo.append 6 rfl rfl rfl rfl rfl rfl rfl rfl rfl rfl rfl rfl (by first | exact CellsAt.boxAll 0 rfl | exact CellsAt.boxAll 1 rfl | exact CellsAt.boxAll 2 rfl | exact CellsAt.boxAll 3 rfl | exact CellsAt.boxAll 4 rfl) rfl rfl (by omega) (fun _ _ => ⟨_, setQ, ?_⟩)))
    | ((with_reducible refine WL.isN_box ?_); first | refine WL.step rfl (StepTo.boxA rfl rfl rfl rfl (fun _ => ?_)) | refine WL.step rfl (StepTo.box1 rfl rfl rfl rfl rfl (fun _ => ?_)))
    | ((with_reducible refine WL.isN_alloc ?_); first | refine WL.step rfl (StepTo.allocA rfl rfl rfl rfl (fun _ => ?_)) | refine WL.step rfl (StepTo.alloc1 rfl rfl rfl rfl rfl (fun _ => ?_)))
    | ((with_reducible refine WL.isN_store ?_); first | refine WL.step rfl (StepTo.store1 0 rfl rfl rfl rfl rfl rfl rfl overQ setQ ?_) | refine WL.step rfl (StepTo.storeA 0 rfl rfl rfl rfl rfl rfl rfl rfl overQ setQ ?_) | refine WL.step rfl (StepTo.storeRow 0 rfl rfl rfl rfl rfl rfl rfl rfl (by omega) setQ ?_) | refine WL.step rfl (StepTo.store1 1 rfl rfl rfl rfl rfl rfl rfl overQ setQ ?_) | refine WL.step rfl (StepTo.storeA 1 rfl rfl rfl rfl rfl rfl rfl rfl overQ setQ ?_) | refine WL.step rfl (StepTo.storeRow 1 rfl rfl rfl rfl rfl rfl rfl rfl (by omega) setQ ?_) | refine WL.step rfl (StepTo.store1 2 rfl rfl rfl rfl rfl rfl rfl overQ setQ ?_) | refine WL.step rfl (StepTo.storeA 2 rfl rfl rfl rfl rfl rfl rfl rfl overQ setQ ?_) | refine WL.step rfl (StepTo.storeRow 2 rfl rfl rfl rfl rfl rfl rfl rfl (by omega) setQ ?_) | refine WL.step rfl (StepTo.store1 3 rfl rfl rfl rfl rfl rfl rfl overQ setQ ?_) | refine WL.step rfl (StepTo.storeA 3 rfl rfl rfl rfl rfl rfl rfl rfl overQ setQ ?_) | refine WL.step rfl (StepTo.storeRow 3 rfl rfl rfl rfl rfl rfl rfl rfl (by omega) setQ ?_) | refine WL.step rfl (StepTo.store1 4 rfl rfl rfl rfl rfl rfl rfl overQ setQ ?_) | refine WL.step rfl (StepTo.storeA 4 rfl rfl rfl rfl rfl rfl rfl rfl overQ setQ ?_) | refine WL.step rfl (StepTo.storeRow 4 rfl rfl rfl rfl rfl rfl rfl rfl (by omega) setQ ?_) | refine WL.step rfl (StepTo.store1 5 rfl rfl rfl rfl rfl rfl rfl overQ setQ ?_) | refine WL.step rfl (StepTo.storeA 5 rfl rfl rfl rfl rfl rfl rfl rfl overQ setQ ?_) | refine WL.step rfl (StepTo.storeRow 5 rfl rfl rfl rfl rfl rfl rfl rfl (by omega) setQ ?_) | refine WL.step rfl (StepTo.store1 6 rfl rfl rfl rfl rfl rfl rfl overQ setQ ?_) | refine WL.step rfl (StepTo.storeA 6 rfl rfl rfl rfl rfl rfl rfl rfl overQ setQ ?_) | refine WL.step rfl (StepTo.storeRow 6 rfl rfl rfl rfl rfl rfl rfl rfl (by omega) setQ ?_) | refine WL.step rfl (StepTo.store1 7 rfl rfl rfl rfl rfl rfl rfl overQ setQ ?_) | refine WL.step rfl (StepTo.storeA 7 rfl rfl rfl rfl rfl rfl rfl rfl overQ setQ ?_) | refine WL.step rfl (StepTo.storeRow 7 rfl rfl rfl rfl rfl rfl rfl rfl (by omega) setQ ?_) | refine WL.step rfl (StepTo.store1 8 rfl rfl rfl rfl rfl rfl rfl overQ setQ ?_) | refine WL.step rfl (StepTo.storeA 8 rfl rfl rfl rfl rfl rfl rfl rfl overQ setQ ?_) | refine WL.step rfl (StepTo.storeRow 8 rfl rfl rfl rfl rfl rfl rfl rfl (by omega) setQ ?_) | refine WL.step rfl (StepTo.store1 9 rfl rfl rfl rfl rfl rfl rfl overQ setQ ?_) | refine WL.step rfl (StepTo.storeA 9 rfl rfl rfl rfl rfl rfl rfl rfl overQ setQ ?_) | refine WL.step rfl (StepTo.storeRow 9 rfl rfl rfl rfl rfl rfl rfl rfl (by omega) setQ ?_) | refine WL.step rfl (StepTo.store1 10 rfl rfl rfl rfl rfl rfl rfl overQ setQ ?_) | refine WL.step rfl (StepTo.storeA 10 rfl rfl rfl rfl rfl rfl rfl rfl overQ setQ ?_) | refine WL.step rfl (StepTo.storeRow 10 rfl rfl rfl rfl rfl rfl rfl rfl (by omega) setQ ?_) | refine WL.step rfl (StepTo.store1 11 rfl rfl rfl rfl rfl rfl rfl overQ setQ ?_) | refine WL.step rfl (StepTo.storeA 11 rfl rfl rfl rfl rfl rfl rfl rfl overQ setQ ?_) | refine WL.step rfl (StepTo.storeRow 11 rfl rfl rfl rfl rfl rfl rfl rfl (by omega) setQ ?_))
    | ((with_reducible refine WL.isN_bslice ?_); first | refine WL.step rfl (StepTo.buildSlice rfl rfl rfl rfl rfl rfl rfl rfl rfl rfl cellsOfQ (fun _ => ?_)))
    | with_reducible refine WC.block ?_
    | with_reducible refine WC.scope ?_
    | with_reducible refine WC.label ?_
    | with_reducible refine WQ.ngN ?_
    | with_reducible refine WQ.ngR ?_
    | with_reducible refine WQ.ngX ?_
    | with_reducible refine WC.skip ?_
    | with_reducible refine WC.ret ?_
    | with_reducible refine WC.exit ?_
    | with_reducible refine WQ.thenR ?_
    | with_reducible refine WQ.thenX ?_
    | with_reducible refine WQ.blkN ?_
    | with_reducible refine WQ.blkR ?_
    | ((with_reducible refine WQ.blkX ?_ ?_); focus rfl)
    | ((with_reducible refine WQ.blkY ?_ ?_); focus rfl)
    | refine WC.condT rfl ?_
    | refine WC.condF rfl ?_
    | refine WC.condTh rfl gdQ ?_
    | refine WC.condFh rfl gdQ ?_
    | (refine WC.cond rfl (fun hc => ?_) (fun hc => ?_) <;> (try first | (with_reducible replace hc := of_decide_eq_true hc) | (with_reducible replace hc := of_decide_eq_false hc) | (with_reducible replace hc := eqT hc) | (with_reducible replace hc := eqF hc) | (with_reducible replace hc := neT hc) | (with_reducible replace hc := neF hc) | (with_reducible replace hc := noT hc) | (with_reducible replace hc := noF hc)) <;> (try (exfalso; omega))))
    exact WQ.body (Reads.two rfl (Res1.cellA rfl rfl rfl rfl (AggAt.box 3 rfl rfl)) (Res1.tmp rfl)) fun w' hw' => ⟨_, _, rfl, ⟨A7, c7, A', c', hok, rfl, rfl⟩, (hw'.pick (idx := [1, 0]) ⟨by decide, rfl⟩).toNew (by simp [Item.mine])⟩

def pv (p : Pc) : Value := .agg #[.int .u32 p.tsn, .int .i64 p.size, .int .i64 p.state, .int .i64 p.misses, .int .i64 p.times, .int .i64 p.path, .int .i64 p.at_]
def PredP (P : Program) (f : FuncId) (caps : List Value) (g : Pc → Bool) (w : World) : Prop :=
  ∀ w', Ext (fun _ => False) w w' → ∀ x : Pc, Calls P f (pv x :: caps).toArray w' fun e w'' => e = .returned (.bool (g x)) ∧ Below w'.heap.size w' w''
def isLost (x : Int) (p : Pc) : Bool := p.tsn == x && p.state == 3
theorem again1_q (a : Nat) (x : Int) (p : Pc) (w : World) (ha : w.cell? ⟨a, 0, none⟩ = some (.int .u32 x)) :
    Calls Try.prog 25 #[.agg #[.int .u32 p.tsn, .int .i64 p.size, .int .i64 p.state, .int .i64 p.misses, .int .i64 p.times, .int .i64 p.path, .int .i64 p.at_], .pointer (some ⟨a, 0, none⟩)] w
      fun e w' => e = .returned (.bool (isLost x p)) ∧ Below w.heap.size w w' := by
  refine enterW (fun _ => False) _ Try.func25 rfl (by simp only [Try.ntmps25, List.length_cons, List.length_nil, Nat.reduceAdd, Nat.reduceSub]; rfl) ?_
  by_cases h1 : p.tsn = x
  · repeat' (first
    | with_reducible refine WL.nil ?_
    | with_reducible refine WQ.thenN ?_
    | with_reducible refine WQ.code ?_
    | with_reducible refine WC.seq ?_
    | with_reducible refine WC.region ?_
    | ((with_reducible refine WL.isN_move ?_); first | refine WL.yld rfl (Yld.pure rfl nrmQ) ?_)
    | ((with_reducible refine WL.isN_assign ?_); first | refine WL.yld rfl (Yld.pure rfl nrmQ) ?_)
    | ((with_reducible refine WL.isN_bin ?_); first | refine WL.yld rfl (Yld.pure rfl nrmQ) ?_ | refine WL.yld rfl (Yld.rem rfl rfl rfl rfl (by omega) (by omega)) ?_ | refine WL.yld rfl (Yld.quo rfl rfl rfl rfl (by omega) (by omega) nrmQ) ?_ | refine WL.yld rfl (Yld.eqlB rfl rfl rfl rfl) ?_ | refine WL.yld rfl (Yld.neqB rfl rfl rfl rfl) ?_ | refine WL.yld rfl (Yld.eqlA 4 rfl rfl rfl (by kernel_rfl) (by kernel_rfl) rfl rfl) ?_ | refine WL.yld rfl (Yld.neqA 4 rfl rfl rfl (by kernel_rfl) (by kernel_rfl) rfl rfl) ?_ | refine WL.yld rfl (Yld.quoT rfl rfl rfl rfl (by omega) nrmQ) ?_)
    | ((with_reducible refine WL.isN_load ?_); first | refine WL.yld rfl (Yld.load rfl rfl rfl rfl (CellAt.inp ha)) ?_ | refine WL.yld rfl (Yld.load rfl rfl rfl rfl cellQ) ?_ | refine WL.yld rfl (Yld.loadAgg rfl rfl rfl rfl rfl aggQ) ?_)
    | ((with_reducible refine WL.isN_faddr ?_); first | refine WL.yld rfl (Yld.fieldAddr rfl rfl rfl rfl rfl rfl rfl) ?_)
    | ((with_reducible refine WL.isN_pick ?_); first | refine WL.yld rfl (Yld.pickT rfl rfl rfl) ?_ | refine WL.yld rfl (Yld.pickF rfl rfl rfl) ?_ | refine WL.yld rfl (Yld.pickTh rfl rfl gdQ rfl) ?_ | refine WL.yld rfl (Yld.pickFh rfl rfl gdQ rfl) ?_ | refine WL.yld rfl (Yld.pickB rfl rfl rfl rfl) ?_)
    | ((with_reducible refine WL.isT ?_); first | refine WL.skipT rfl rfl rfl rfl gdQ ?_ | refine WL.skipU rfl rfl rfl rfl ?_ | refine WL.runT rfl rfl rfl gdQ ?_ | (refine WL.cases rfl rfl rfl (fun hg => ?_) (fun hg => ?_) <;> (try first | (with_reducible replace hg := of_decide_eq_true hg) | (with_reducible replace hg := of_decide_eq_false hg) | (with_reducible replace hg := eqT hg) | (with_reducible replace hg := eqF hg) | (with_reducible replace hg := neT hg) | (with_reducible replace hg := neF hg) | (with_reducible replace hg := noT hg) | (with_reducible replace hg := noF hg)) <;> (try (exfalso; omega))))
    | ((with_reducible refine WL.isF ?_); first | refine WL.skipF rfl rfl rfl rfl gdQ ?_ | refine WL.skipU rfl rfl rfl rfl ?_ | refine WL.runF rfl rfl rfl gdQ ?_ | (refine WL.cases rfl rfl rfl (fun hg => ?_) (fun hg => ?_) <;> (try first | (with_reducible replace hg := of_decide_eq_true hg) | (with_reducible replace hg := of_decide_eq_false hg) | (with_reducible replace hg := eqT hg) | (with_reducible replace hg := eqF hg) | (with_reducible replace hg := neT hg) | (with_reducible replace hg := neF hg) | (with_reducible replace hg := noT hg) | (with_reducible replace hg := noF hg)) <;> (try (exfalso; omega))))
    | ((with_reducible refine WL.isN_box ?_); first | refine WL.step rfl (StepTo.boxA rfl rfl rfl rfl (fun _ => ?_)) | refine WL.step rfl (StepTo.box1 rfl rfl rfl rfl rfl (fun _ => ?_)))
    | with_reducible refine WC.block ?_
    | with_reducible refine WC.scope ?_
    | with_reducible refine WC.label ?_
    | with_reducible refine WQ.ngN ?_
    | with_reducible refine WQ.ngR ?_
    | with_reducible refine WQ.ngX ?_
    | with_reducible refine WC.skip ?_
    | with_reducible refine WC.ret ?_
    | with_reducible refine WC.exit ?_
    | with_reducible refine WQ.thenR ?_
    | with_reducible refine WQ.thenX ?_
    | with_reducible refine WQ.blkN ?_
    | with_reducible refine WQ.blkR ?_
    | ((with_reducible refine WQ.blkX ?_ ?_); focus rfl)
    | ((with_reducible refine WQ.blkY ?_ ?_); focus rfl)
    | refine WC.condT rfl ?_
    | refine WC.condF rfl ?_
    | refine WC.condTh rfl gdQ ?_
    | refine WC.condFh rfl gdQ ?_
    | (refine WC.cond rfl (fun hc => ?_) (fun hc => ?_) <;> (try first | (with_reducible replace hc := of_decide_eq_true hc) | (with_reducible replace hc := of_decide_eq_false hc) | (with_reducible replace hc := eqT hc) | (with_reducible replace hc := eqF hc) | (with_reducible replace hc := neT hc) | (with_reducible replace hc := neF hc) | (with_reducible replace hc := noT hc) | (with_reducible replace hc := noF hc)) <;> (try (exfalso; omega))))
    exact WQ.body (Reads.tmp rfl rfl) fun w' hw' => ⟨by simp [isLost, h1], hw'.ext.below⟩
  · repeat' (first
    | with_reducible refine WL.nil ?_
    | with_reducible refine WQ.thenN ?_
    | with_reducible refine WQ.code ?_
    | with_reducible refine WC.seq ?_
    | with_reducible refine WC.region ?_
    | ((with_reducible refine WL.isN_move ?_); first | refine WL.yld rfl (Yld.pure rfl nrmQ) ?_)
    | ((with_reducible refine WL.isN_assign ?_); first | refine WL.yld rfl (Yld.pure rfl nrmQ) ?_)
    | ((with_reducible refine WL.isN_bin ?_); first | refine WL.yld rfl (Yld.pure rfl nrmQ) ?_ | refine WL.yld rfl (Yld.rem rfl rfl rfl rfl (by omega) (by omega)) ?_ | refine WL.yld rfl (Yld.quo rfl rfl rfl rfl (by omega) (by omega) nrmQ) ?_ | refine WL.yld rfl (Yld.eqlB rfl rfl rfl rfl) ?_ | refine WL.yld rfl (Yld.neqB rfl rfl rfl rfl) ?_ | refine WL.yld rfl (Yld.eqlA 4 rfl rfl rfl (by kernel_rfl) (by kernel_rfl) rfl rfl) ?_ | refine WL.yld rfl (Yld.neqA 4 rfl rfl rfl (by kernel_rfl) (by kernel_rfl) rfl rfl) ?_ | refine WL.yld rfl (Yld.quoT rfl rfl rfl rfl (by omega) nrmQ) ?_)
    | ((with_reducible refine WL.isN_load ?_); first | refine WL.yld rfl (Yld.load rfl rfl rfl rfl (CellAt.inp ha)) ?_ | refine WL.yld rfl (Yld.load rfl rfl rfl rfl cellQ) ?_ | refine WL.yld rfl (Yld.loadAgg rfl rfl rfl rfl rfl aggQ) ?_)
    | ((with_reducible refine WL.isN_faddr ?_); first | refine WL.yld rfl (Yld.fieldAddr rfl rfl rfl rfl rfl rfl rfl) ?_)
    | ((with_reducible refine WL.isN_pick ?_); first | refine WL.yld rfl (Yld.pickT rfl rfl rfl) ?_ | refine WL.yld rfl (Yld.pickF rfl rfl rfl) ?_ | refine WL.yld rfl (Yld.pickTh rfl rfl gdQ rfl) ?_ | refine WL.yld rfl (Yld.pickFh rfl rfl gdQ rfl) ?_ | refine WL.yld rfl (Yld.pickB rfl rfl rfl rfl) ?_)
    | ((with_reducible refine WL.isT ?_); first | refine WL.skipT rfl rfl rfl rfl gdQ ?_ | refine WL.skipU rfl rfl rfl rfl ?_ | refine WL.runT rfl rfl rfl gdQ ?_ | (refine WL.cases rfl rfl rfl (fun hg => ?_) (fun hg => ?_) <;> (try first | (with_reducible replace hg := of_decide_eq_true hg) | (with_reducible replace hg := of_decide_eq_false hg) | (with_reducible replace hg := eqT hg) | (with_reducible replace hg := eqF hg) | (with_reducible replace hg := neT hg) | (with_reducible replace hg := neF hg) | (with_reducible replace hg := noT hg) | (with_reducible replace hg := noF hg)) <;> (try (exfalso; omega))))
    | ((with_reducible refine WL.isF ?_); first | refine WL.skipF rfl rfl rfl rfl gdQ ?_ | refine WL.skipU rfl rfl rfl rfl ?_ | refine WL.runF rfl rfl rfl gdQ ?_ | (refine WL.cases rfl rfl rfl (fun hg => ?_) (fun hg => ?_) <;> (try first | (with_reducible replace hg := of_decide_eq_true hg) | (with_reducible replace hg := of_decide_eq_false hg) | (with_reducible replace hg := eqT hg) | (with_reducible replace hg := eqF hg) | (with_reducible replace hg := neT hg) | (with_reducible replace hg := neF hg) | (with_reducible replace hg := noT hg) | (with_reducible replace hg := noF hg)) <;> (try (exfalso; omega))))
    | ((with_reducible refine WL.isN_box ?_); first | refine WL.step rfl (StepTo.boxA rfl rfl rfl rfl (fun _ => ?_)) | refine WL.step rfl (StepTo.box1 rfl rfl rfl rfl rfl (fun _ => ?_)))
    | with_reducible refine WC.block ?_
    | with_reducible refine WC.scope ?_
    | with_reducible refine WC.label ?_
    | with_reducible refine WQ.ngN ?_
    | with_reducible refine WQ.ngR ?_
    | with_reducible refine WQ.ngX ?_
    | with_reducible refine WC.skip ?_
    | with_reducible refine WC.ret ?_
    | with_reducible refine WC.exit ?_
    | with_reducible refine WQ.thenR ?_
    | with_reducible refine WQ.thenX ?_
    | with_reducible refine WQ.blkN ?_
    | with_reducible refine WQ.blkR ?_
    | ((with_reducible refine WQ.blkX ?_ ?_); focus rfl)
    | ((with_reducible refine WQ.blkY ?_ ?_); focus rfl)
    | refine WC.condT rfl ?_
    | refine WC.condF rfl ?_
    | refine WC.condTh rfl gdQ ?_
    | refine WC.condFh rfl gdQ ?_
    | (refine WC.cond rfl (fun hc => ?_) (fun hc => ?_) <;> (try first | (with_reducible replace hc := of_decide_eq_true hc) | (with_reducible replace hc := of_decide_eq_false hc) | (with_reducible replace hc := eqT hc) | (with_reducible replace hc := eqF hc) | (with_reducible replace hc := neT hc) | (with_reducible replace hc := neF hc) | (with_reducible replace hc := noT hc) | (with_reducible replace hc := noF hc)) <;> (try (exfalso; omega))))
    exact WQ.body (Reads.tmp rfl rfl) fun w' hw' => ⟨by simp [isLost, h1], hw'.ext.below⟩
theorem findC_take {g : Pc → Bool} {xs : List Pc} {i : Nat} {m : Pc} (hm : xs[i]? = some m) (hall : ∀ (j : Nat) x, j < i → xs[j]? = some x → g x = false) (hp : g m = true) : xs.findIdx g = i := by
  obtain ⟨hi, rfl⟩ := List.getElem?_eq_some_iff.1 hm
  exact (List.findIdx_eq hi).2 ⟨hp, fun j hj => by
    have := hall j _ hj (List.getElem?_eq_getElem (by omega))
    simp [this]⟩
theorem indexP_q (A : Option Addr) (n c : Nat) (xs : List Pc) (f : FuncId) (caps : List Value) (g : Pc → Bool) (w : World) (hL : Ps w w.heap.size A n xs) (hn : n ≤ 1000000) (hp : PredP Try.prog f caps g w) (hB : callsB Try.prog f = true) :
    Calls Try.prog 24 #[.slice A n c, .func (.func f) #[] caps.toArray] w
      fun e w' => e = .returned (.int .i64 (if xs.findIdx g < n then ((xs.findIdx g : Nat) : Int) else -1)) ∧ Below w.heap.size w w' := by
  have hl := hL.len
  refine enterW (fun _ => False) _ Try.func24 rfl (by simp only [Try.ntmps24, List.length_cons, List.length_nil, Nat.reduceAdd, Nat.reduceSub]; rfl) ?_
  refine WC.addVw Pc.cs_len hL ?_
  repeat' (first
    | with_reducible refine WL.nil ?_
    | with_reducible refine WQ.thenN ?_
    | with_reducible refine WQ.code ?_
    | with_reducible refine WC.seq ?_
    | with_reducible refine WC.region ?_
    | ((with_reducible refine WL.isN_move ?_); first | refine WL.yld rfl (Yld.pure rfl nrmQ) ?_)
    | ((with_reducible refine WL.isN_assign ?_); first | refine WL.yld rfl (Yld.pure rfl nrmQ) ?_)
    | ((with_reducible refine WL.isN_bin ?_); first | refine WL.yld rfl (Yld.pure rfl nrmQ) ?_ | refine WL.yld rfl (Yld.rem rfl rfl rfl rfl (by omega) (by omega)) ?_ | refine WL.yld rfl (Yld.quo rfl rfl rfl rfl (by omega) (by omega) nrmQ) ?_ | refine WL.yld rfl (Yld.eqlB rfl rfl rfl rfl) ?_ | refine WL.yld rfl (Yld.neqB rfl rfl rfl rfl) ?_ | refine WL.yld rfl (Yld.eqlA 4 rfl rfl rfl (by kernel_rfl) (by kernel_rfl) rfl rfl) ?_ | refine WL.yld rfl (Yld.neqA 4 rfl rfl rfl (by kernel_rfl) (by kernel_rfl) rfl rfl) ?_ | refine WL.yld rfl (Yld.quoT rfl rfl rfl rfl (by omega) nrmQ) ?_)
    | ((with_reducible refine WL.isN_load ?_); first | refine WL.yld rfl (Yld.load rfl rfl rfl rfl cellQ) ?_ | refine WL.yld rfl (Yld.loadAgg rfl rfl rfl rfl rfl aggQ) ?_)
    | ((with_reducible refine WL.isN_iaddr ?_); first | refine WL.yld rfl (Yld.indexS 0 rfl rfl rfl rfl rfl rfl (by omega)) ?_ | refine WL.yld rfl (Yld.indexS 1 rfl rfl rfl rfl rfl rfl (by omega)) ?_ | refine WL.yld rfl (Yld.indexS 2 rfl rfl rfl rfl rfl rfl (by omega)) ?_ | refine WL.yld rfl (Yld.indexS _ rfl rfl rfl rfl rfl rfl (by omega)) ?_ | refine WL.yld rfl (Yld.indexA 0 rfl rfl rfl rfl rfl rfl (by omega)) ?_ | refine WL.yld rfl (Yld.indexA 1 rfl rfl rfl rfl rfl rfl (by omega)) ?_ | refine WL.yld rfl (Yld.indexA _ rfl rfl rfl rfl rfl rfl (by omega)) ?_)
    | ((with_reducible refine WL.isN_call ?_); first | refine WL.yld rfl (Yld.lenSlice rfl rfl rfl) ?_ | refine WL.yld rfl (Yld.lenStr rfl rfl rfl) ?_)
    | with_reducible refine WC.block ?_
    | with_reducible refine WC.scope ?_
    | with_reducible refine WC.label ?_
    | with_reducible refine WQ.ngN ?_
    | with_reducible refine WQ.ngR ?_
    | with_reducible refine WQ.ngX ?_
    | with_reducible refine WC.skip ?_
    | with_reducible refine WC.ret ?_
    | with_reducible refine WC.exit ?_
    | with_reducible refine WQ.thenR ?_
    | with_reducible refine WQ.thenX ?_
    | with_reducible refine WQ.blkN ?_
    | with_reducible refine WQ.blkR ?_
    | ((with_reducible refine WQ.blkX ?_ ?_); focus rfl)
    | ((with_reducible refine WQ.blkY ?_ ?_); focus rfl)
    | refine WC.condT rfl ?_
    | refine WC.condF rfl ?_
    | refine WC.condTh rfl gdQ ?_
    | refine WC.condFh rfl gdQ ?_
    | (refine WC.cond rfl (fun hc => ?_) (fun hc => ?_) <;> (try first | (with_reducible replace hc := of_decide_eq_true hc) | (with_reducible replace hc := of_decide_eq_false hc) | (with_reducible replace hc := eqT hc) | (with_reducible replace hc := eqF hc) | (with_reducible replace hc := neT hc) | (with_reducible replace hc := neF hc) | (with_reducible replace hc := noT hc) | (with_reducible replace hc := noF hc)) <;> (try (exfalso; omega))))
  refine WC.loop (fun mm τ H => ∃ i : Nat, i ≤ n ∧ mm = n - i ∧ (∀ (j : Nat) x, j < i → xs[j]? = some x → g x = false) ∧
      τ = [(0, .slice A n c), (1, .func (.func f) #[] caps.toArray), (7, .int .i64 n), (8, .int .i64 i)] ∧ H = [.vw A n 7 (flat Pc.cs xs)])
    n _ _ [0] ?_ ?_ ⟨0, by omega, rfl, fun j x hj => absurd hj (by omega), rfl, rfl⟩ ?_
  · exact (by repeat (first | exact Sub.nil | refine Sub.cons rfl ?_ | refine Sub.consE rfl (int_eq (by omega)) ?_))
  · exact ⟨by decide, rfl⟩
  rintro mm τ H ⟨i, hi, rfl, hall, rfl, rfl⟩
  by_cases hlt : i < n
  · obtain ⟨m, hm⟩ : ∃ m, xs[i]? = some m := ⟨_, List.getElem?_eq_getElem (by omega)⟩
    have hpm : PartAt (flat Pc.cs xs) (i * 7) m.cs := PartAt.flat Pc.cs_len hm
    refine WC.vwAt 0 rfl (by omega) fun b off hA => ?_
    subst hA
    cases hpx : g m with
    | true =>
      have he := findC_take hm hall hpx
      repeat' (first
    | with_reducible refine WL.nil ?_
    | with_reducible refine WQ.thenN ?_
    | with_reducible refine WQ.code ?_
    | with_reducible refine WC.seq ?_
    | with_reducible refine WC.region ?_
    | ((with_reducible refine WL.isN_move ?_); first | refine WL.yld rfl (Yld.pure rfl nrmQ) ?_)
    | ((with_reducible refine WL.isN_assign ?_); first | refine WL.yld rfl (Yld.pure rfl nrmQ) ?_)
    | ((with_reducible refine WL.isN_bin ?_); first | refine WL.yld rfl (Yld.pure rfl nrmQ) ?_ | refine WL.yld rfl (Yld.rem rfl rfl rfl rfl (by omega) (by omega)) ?_ | refine WL.yld rfl (Yld.quo rfl rfl rfl rfl (by omega) (by omega) nrmQ) ?_ | refine WL.yld rfl (Yld.eqlB rfl rfl rfl rfl) ?_ | refine WL.yld rfl (Yld.neqB rfl rfl rfl rfl) ?_ | refine WL.yld rfl (Yld.eqlA 4 rfl rfl rfl (by kernel_rfl) (by kernel_rfl) rfl rfl) ?_ | refine WL.yld rfl (Yld.neqA 4 rfl rfl rfl (by kernel_rfl) (by kernel_rfl) rfl rfl) ?_ | refine WL.yld rfl (Yld.quoT rfl rfl rfl rfl (by omega) nrmQ) ?_)
    | ((with_reducible refine WL.isN_load ?_); first | refine WL.yld rfl (Yld.load rfl rfl rfl rfl cellQ) ?_ | refine WL.yld rfl (Yld.loadAgg rfl rfl rfl rfl rfl aggQ) ?_)
    | ((with_reducible refine WL.isN_iaddr ?_); first | refine WL.yld rfl (Yld.indexS 0 rfl rfl rfl rfl rfl rfl (by omega)) ?_ | refine WL.yld rfl (Yld.indexS 1 rfl rfl rfl rfl rfl rfl (by omega)) ?_ | refine WL.yld rfl (Yld.indexS 2 rfl rfl rfl rfl rfl rfl (by omega)) ?_ | refine WL.yld rfl (Yld.indexS _ rfl rfl rfl rfl rfl rfl (by omega)) ?_ | refine WL.yld rfl (Yld.indexA 0 rfl rfl rfl rfl rfl rfl (by omega)) ?_ | refine WL.yld rfl (Yld.indexA 1 rfl rfl rfl rfl rfl rfl (by omega)) ?_ | refine WL.yld rfl (Yld.indexA _ rfl rfl rfl rfl rfl rfl (by omega)) ?_)
    | ((with_reducible refine WL.isN_call ?_); first | refine WL.step rfl (StepTo.callV (v := .bool true) (us := pv m :: caps) rfl rfl rfl rfl rfl hB (fun w' hw' => hpx ▸ hp w' hw'.ext m) ?_) | refine WL.yld rfl (Yld.lenSlice rfl rfl rfl) ?_ | refine WL.yld rfl (Yld.lenStr rfl rfl rfl) ?_)
    | with_reducible refine WC.block ?_
    | with_reducible refine WC.scope ?_
    | with_reducible refine WC.label ?_
    | with_reducible refine WQ.ngN ?_
    | with_reducible refine WQ.ngR ?_
    | with_reducible refine WQ.ngX ?_
    | with_reducible refine WC.skip ?_
    | with_reducible refine WC.ret ?_
    | with_reducible refine WC.exit ?_
    | with_reducible refine WQ.thenR ?_
    | with_reducible refine WQ.thenX ?_
    | with_reducible refine WQ.blkN ?_
    | with_reducible refine WQ.blkR ?_
    | ((with_reducible refine WQ.blkX ?_ ?_); focus rfl)
    | ((with_reducible refine WQ.blkY ?_ ?_); focus rfl)
    | refine WC.condT rfl ?_
    | refine WC.condF rfl ?_
    | refine WC.condTh rfl gdQ ?_
    | refine WC.condFh rfl gdQ ?_
    | (refine WC.cond rfl (fun hc => ?_) (fun hc => ?_) <;> (try first | (with_reducible replace hc := of_decide_eq_true hc) | (with_reducible replace hc := of_decide_eq_false hc) | (with_reducible replace hc := eqT hc) | (with_reducible replace hc := eqF hc) | (with_reducible replace hc := neT hc) | (with_reducible replace hc := neF hc) | (with_reducible replace hc := noT hc) | (with_reducible replace hc := noF hc)) <;> (try (exfalso; omega))))
      exact WQ.body (Reads.tmp rfl rfl) fun w' hw' => ⟨by rw [he, if_pos hlt], hw'.ext.below⟩
    | false =>
      repeat' (first
    | with_reducible refine WL.nil ?_
    | with_reducible refine WQ.thenN ?_
    | with_reducible refine WQ.code ?_
    | with_reducible refine WC.seq ?_
    | with_reducible refine WC.region ?_
    | ((with_reducible refine WL.isN_move ?_); first | refine WL.yld rfl (Yld.pure rfl nrmQ) ?_)
    | ((with_reducible refine WL.isN_assign ?_); first | refine WL.yld rfl (Yld.pure rfl nrmQ) ?_)
    | ((with_reducible refine WL.isN_bin ?_); first | refine WL.yld rfl (Yld.pure rfl nrmQ) ?_ | refine WL.yld rfl (Yld.rem rfl rfl rfl rfl (by omega) (by omega)) ?_ | refine WL.yld rfl (Yld.quo rfl rfl rfl rfl (by omega) (by omega) nrmQ) ?_ | refine WL.yld rfl (Yld.eqlB rfl rfl rfl rfl) ?_ | refine WL.yld rfl (Yld.neqB rfl rfl rfl rfl) ?_ | refine WL.yld rfl (Yld.eqlA 4 rfl rfl rfl (by kernel_rfl) (by kernel_rfl) rfl rfl) ?_ | refine WL.yld rfl (Yld.neqA 4 rfl rfl rfl (by kernel_rfl) (by kernel_rfl) rfl rfl) ?_ | refine WL.yld rfl (Yld.quoT rfl rfl rfl rfl (by omega) nrmQ) ?_)
    | ((with_reducible refine WL.isN_load ?_); first | refine WL.yld rfl (Yld.load rfl rfl rfl rfl cellQ) ?_ | refine WL.yld rfl (Yld.loadAgg rfl rfl rfl rfl rfl aggQ) ?_)
    | ((with_reducible refine WL.isN_iaddr ?_); first | refine WL.yld rfl (Yld.indexS 0 rfl rfl rfl rfl rfl rfl (by omega)) ?_ | refine WL.yld rfl (Yld.indexS 1 rfl rfl rfl rfl rfl rfl (by omega)) ?_ | refine WL.yld rfl (Yld.indexS 2 rfl rfl rfl rfl rfl rfl (by omega)) ?_ | refine WL.yld rfl (Yld.indexS _ rfl rfl rfl rfl rfl rfl (by omega)) ?_ | refine WL.yld rfl (Yld.indexA 0 rfl rfl rfl rfl rfl rfl (by omega)) ?_ | refine WL.yld rfl (Yld.indexA 1 rfl rfl rfl rfl rfl rfl (by omega)) ?_ | refine WL.yld rfl (Yld.indexA _ rfl rfl rfl rfl rfl rfl (by omega)) ?_)
    | ((with_reducible refine WL.isN_call ?_); first | refine WL.step rfl (StepTo.callV (v := .bool false) (us := pv m :: caps) rfl rfl rfl rfl rfl hB (fun w' hw' => hpx ▸ hp w' hw'.ext m) ?_) | refine WL.yld rfl (Yld.lenSlice rfl rfl rfl) ?_ | refine WL.yld rfl (Yld.lenStr rfl rfl rfl) ?_)
    | with_reducible refine WC.block ?_
    | with_reducible refine WC.scope ?_
    | with_reducible refine WC.label ?_
    | with_reducible refine WQ.ngN ?_
    | with_reducible refine WQ.ngR ?_
    | with_reducible refine WQ.ngX ?_
    | with_reducible refine WC.skip ?_
    | with_reducible refine WC.ret ?_
    | with_reducible refine WC.exit ?_
    | with_reducible refine WQ.thenR ?_
    | with_reducible refine WQ.thenX ?_
    | with_reducible refine WQ.blkN ?_
    | with_reducible refine WQ.blkR ?_
    | ((with_reducible refine WQ.blkX ?_ ?_); focus rfl)
    | ((with_reducible refine WQ.blkY ?_ ?_); focus rfl)
    | refine WC.condT rfl ?_
    | refine WC.condF rfl ?_
    | refine WC.condTh rfl gdQ ?_
    | refine WC.condFh rfl gdQ ?_
    | (refine WC.cond rfl (fun hc => ?_) (fun hc => ?_) <;> (try first | (with_reducible replace hc := of_decide_eq_true hc) | (with_reducible replace hc := of_decide_eq_false hc) | (with_reducible replace hc := eqT hc) | (with_reducible replace hc := eqF hc) | (with_reducible replace hc := neT hc) | (with_reducible replace hc := neF hc) | (with_reducible replace hc := noT hc) | (with_reducible replace hc := noF hc)) <;> (try (exfalso; omega))))
      exact WQ.rnd (n - (i + 1)) _ _ [0] (by repeat (first | exact Sub.nil | refine Sub.cons rfl ?_ | refine Sub.consE rfl (int_eq (by omega)) ?_)) ⟨by decide, rfl⟩ (by omega) ⟨i + 1, by omega, rfl, fun j x hj hx' => by
        by_cases e : j = i
        · subst e
          rw [hm] at hx'
          injection hx' with hx'
          subst hx'
          exact hpx
        · exact hall j x (by omega) hx', rfl, rfl⟩
  · have he : xs.findIdx g = xs.length := List.findIdx_eq_length.2 fun x hx' => by
      obtain ⟨j, hj, rfl⟩ := List.getElem_of_mem hx'
      exact hall j _ (by omega) (List.getElem?_eq_getElem hj)
    repeat' (first
    | with_reducible refine WL.nil ?_
    | with_reducible refine WQ.thenN ?_
    | with_reducible refine WQ.code ?_
    | with_reducible refine WC.seq ?_
    | with_reducible refine WC.region ?_
    | ((with_reducible refine WL.isN_move ?_); first | refine WL.yld rfl (Yld.pure rfl nrmQ) ?_)
    | ((with_reducible refine WL.isN_assign ?_); first | refine WL.yld rfl (Yld.pure rfl nrmQ) ?_)
    | ((with_reducible refine WL.isN_bin ?_); first | refine WL.yld rfl (Yld.pure rfl nrmQ) ?_ | refine WL.yld rfl (Yld.rem rfl rfl rfl rfl (by omega) (by omega)) ?_ | refine WL.yld rfl (Yld.quo rfl rfl rfl rfl (by omega) (by omega) nrmQ) ?_ | refine WL.yld rfl (Yld.eqlB rfl rfl rfl rfl) ?_ | refine WL.yld rfl (Yld.neqB rfl rfl rfl rfl) ?_ | refine WL.yld rfl (Yld.eqlA 4 rfl rfl rfl (by kernel_rfl) (by kernel_rfl) rfl rfl) ?_ | refine WL.yld rfl (Yld.neqA 4 rfl rfl rfl (by kernel_rfl) (by kernel_rfl) rfl rfl) ?_ | refine WL.yld rfl (Yld.quoT rfl rfl rfl rfl (by omega) nrmQ) ?_)
    | ((with_reducible refine WL.isN_load ?_); first | refine WL.yld rfl (Yld.load rfl rfl rfl rfl cellQ) ?_ | refine WL.yld rfl (Yld.loadAgg rfl rfl rfl rfl rfl aggQ) ?_)
    | ((with_reducible refine WL.isN_iaddr ?_); first | refine WL.yld rfl (Yld.indexS 0 rfl rfl rfl rfl rfl rfl (by omega)) ?_ | refine WL.yld rfl (Yld.indexS 1 rfl rfl rfl rfl rfl rfl (by omega)) ?_ | refine WL.yld rfl (Yld.indexS 2 rfl rfl rfl rfl rfl rfl (by omega)) ?_ | refine WL.yld rfl (Yld.indexS _ rfl rfl rfl rfl rfl rfl (by omega)) ?_ | refine WL.yld rfl (Yld.indexA 0 rfl rfl rfl rfl rfl rfl (by omega)) ?_ | refine WL.yld rfl (Yld.indexA 1 rfl rfl rfl rfl rfl rfl (by omega)) ?_ | refine WL.yld rfl (Yld.indexA _ rfl rfl rfl rfl rfl rfl (by omega)) ?_)
    | ((with_reducible refine WL.isN_call ?_); first | refine WL.yld rfl (Yld.lenSlice rfl rfl rfl) ?_ | refine WL.yld rfl (Yld.lenStr rfl rfl rfl) ?_)
    | with_reducible refine WC.block ?_
    | with_reducible refine WC.scope ?_
    | with_reducible refine WC.label ?_
    | with_reducible refine WQ.ngN ?_
    | with_reducible refine WQ.ngR ?_
    | with_reducible refine WQ.ngX ?_
    | with_reducible refine WC.skip ?_
    | with_reducible refine WC.ret ?_
    | with_reducible refine WC.exit ?_
    | with_reducible refine WQ.thenR ?_
    | with_reducible refine WQ.thenX ?_
    | with_reducible refine WQ.blkN ?_
    | with_reducible refine WQ.blkR ?_
    | ((with_reducible refine WQ.blkX ?_ ?_); focus rfl)
    | ((with_reducible refine WQ.blkY ?_ ?_); focus rfl)
    | refine WC.condT rfl ?_
    | refine WC.condF rfl ?_
    | refine WC.condTh rfl gdQ ?_
    | refine WC.condFh rfl gdQ ?_
    | (refine WC.cond rfl (fun hc => ?_) (fun hc => ?_) <;> (try first | (with_reducible replace hc := of_decide_eq_true hc) | (with_reducible replace hc := of_decide_eq_false hc) | (with_reducible replace hc := eqT hc) | (with_reducible replace hc := eqF hc) | (with_reducible replace hc := neT hc) | (with_reducible replace hc := neF hc) | (with_reducible replace hc := noT hc) | (with_reducible replace hc := noF hc)) <;> (try (exfalso; omega))))
    exact WQ.body (Reads.tmp rfl rfl) fun w' hw' => ⟨by rw [he, if_neg (by omega)], hw'.ext.below⟩
theorem again_pred {w0 w : World} {D : Nat → Prop} {H : List Item} (hw : Sat w0 D H w) (i : Nat) {a ta : Nat} {x : Int} (hi : H[i]? = some (.box a ta [.int .u32 x])) : PredP Try.prog 25 [.pointer (some ⟨a, 0, none⟩)] (isLost x) w := by
  intro w' h' p
  refine again1_q a x p w' ?_
  have hb : w.heap[a]? = some (.cells [Value.int .u32 x].toArray ta (0, 0)) := hw.holds _ (List.mem_of_getElem? hi)
  have h1 : a < w.heap.size := by
    rcases Nat.lt_or_ge a w.heap.size with h | h
    · exact h
    · rw [Array.getElem?_eq_none h] at hb; cases hb
  have h2 := (h'.block a h1 id).trans hb
  rw [cell_of_row w' a 0 [Value.int .u32 x].toArray ta (0, 0) h2]
  rfl
def resent (to now : Int) (p : Pc) : Pc := { p with state := 1, path := to, at_ := now, times := w64 (p.times + 1) }
theorem again_no (cum : Int) (A : Option Addr) (n c : Nat) (ps : List Pc) (x to now : Int) (w : World) (hL : Ps w w.heap.size A n ps) (hn : n ≤ 1000000) (h : ∀ p ∈ ps, isLost x p = false) :
    Calls Try.prog 19 #[.agg #[.int .u32 cum, .slice A n c], .int .u32 x, .int .i64 to, .int .i64 now] w
      fun e w' => e = .returned (.tuple #[.agg #[.int .u32 cum, .slice A n c], .bool false]) ∧ Below w.heap.size w w' := by
  have hl := hL.len
  have hf : ps.findIdx (isLost x) = ps.length := List.findIdx_eq_length.2 h
  refine enterW (fun _ => False) _ Try.func19 rfl (by simp only [Try.ntmps19, List.length_cons, List.length_nil, Nat.reduceAdd, Nat.reduceSub]; rfl) ?_
  refine WC.addVw Pc.cs_len hL ?_
  repeat' (first
    | with_reducible refine WL.nil ?_
    | with_reducible refine WQ.thenN ?_
    | with_reducible refine WQ.code ?_
    | with_reducible refine WC.seq ?_
    | with_reducible refine WC.region ?_
    | ((with_reducible refine WL.isN_move ?_); first | refine WL.yld rfl (Yld.pure rfl nrmQ) ?_)
    | ((with_reducible refine WL.isN_assign ?_); first | refine WL.yld rfl (Yld.pure rfl nrmQ) ?_)
    | ((with_reducible refine WL.isN_bin ?_); first | refine WL.yld rfl (Yld.pure rfl nrmQ) ?_ | refine WL.yld rfl (Yld.rem rfl rfl rfl rfl (by omega) (by omega)) ?_ | refine WL.yld rfl (Yld.quo rfl rfl rfl rfl (by omega) (by omega) nrmQ) ?_ | refine WL.yld rfl (Yld.eqlB rfl rfl rfl rfl) ?_ | refine WL.yld rfl (Yld.neqB rfl rfl rfl rfl) ?_ | refine WL.yld rfl (Yld.eqlA 4 rfl rfl rfl (by kernel_rfl) (by kernel_rfl) rfl rfl) ?_ | refine WL.yld rfl (Yld.neqA 4 rfl rfl rfl (by kernel_rfl) (by kernel_rfl) rfl rfl) ?_ | refine WL.yld rfl (Yld.quoT rfl rfl rfl rfl (by omega) nrmQ) ?_)
    | ((with_reducible refine WL.isN_nil ?_); first | refine WL.yld rfl (Yld.pure rfl nrmQ) ?_)
    | ((with_reducible refine WL.isN_load ?_); first | refine WL.yld rfl (Yld.load rfl rfl rfl rfl cellQ) ?_ | refine WL.yld rfl (Yld.loadAgg rfl rfl rfl rfl rfl aggQ) ?_)
    | ((with_reducible refine WL.isN_faddr ?_); first | refine WL.yld rfl (Yld.fieldAddr rfl rfl rfl rfl rfl rfl rfl) ?_)
    | ((with_reducible refine WL.isN_iaddr ?_); first | refine WL.yld rfl (Yld.indexS 0 rfl rfl rfl rfl rfl rfl (by omega)) ?_ | refine WL.yld rfl (Yld.indexS 1 rfl rfl rfl rfl rfl rfl (by omega)) ?_ | refine WL.yld rfl (Yld.indexS 2 rfl rfl rfl rfl rfl rfl (by omega)) ?_ | refine WL.yld rfl (Yld.indexS _ rfl rfl rfl rfl rfl rfl (by omega)) ?_ | refine WL.yld rfl (Yld.indexA 0 rfl rfl rfl rfl rfl rfl (by omega)) ?_ | refine WL.yld rfl (Yld.indexA 1 rfl rfl rfl rfl rfl rfl (by omega)) ?_ | refine WL.yld rfl (Yld.indexA _ rfl rfl rfl rfl rfl rfl (by omega)) ?_)
    | ((with_reducible refine WL.isN_func ?_); first | refine WL.yld rfl (Yld.func rfl rfl rfl) ?_)
    | ((with_reducible refine WL.isN_call ?_); first | refine WL.step rfl (StepTo.callV (v := .int .i64 (-1)) (us := [.slice A n c, .func (.func 25) #[] #[.pointer (some ⟨_, 0, none⟩)]]) rfl rfl rfl rfl rfl (by kernel_rfl) (fun w' hw' => (indexP_q A n c ps 25 [.pointer (some ⟨_, 0, none⟩)] (isLost x) w' (hw'.lst 3 Pc.cs_len (by omega) rfl) hn (again_pred hw' 1 rfl) (by kernel_rfl)).mono fun e w2 ⟨h1, h2⟩ => ⟨by rw [h1, hf, if_neg (by omega)], h2⟩) ?_))
    | ((with_reducible refine WL.isN_box ?_); first | refine WL.step rfl (StepTo.boxA rfl rfl rfl rfl (fun _ => ?_)) | refine WL.step rfl (StepTo.box1 rfl rfl rfl rfl rfl (fun _ => ?_)))
    | ((with_reducible refine WL.isN_alloc ?_); first | refine WL.step rfl (StepTo.allocA rfl rfl rfl rfl (fun _ => ?_)) | refine WL.step rfl (StepTo.alloc1 rfl rfl rfl rfl rfl (fun _ => ?_)))
    | ((with_reducible refine WL.isN_store ?_); first | refine WL.step rfl (StepTo.store1 0 rfl rfl rfl rfl rfl rfl rfl overQ setQ ?_) | refine WL.step rfl (StepTo.storeA 0 rfl rfl rfl rfl rfl rfl rfl rfl overQ setQ ?_) | refine WL.step rfl (StepTo.storeRow 0 rfl rfl rfl rfl rfl rfl rfl rfl (by omega) setQ ?_) | refine WL.step rfl (StepTo.store1 1 rfl rfl rfl rfl rfl rfl rfl overQ setQ ?_) | refine WL.step rfl (StepTo.storeA 1 rfl rfl rfl rfl rfl rfl rfl rfl overQ setQ ?_) | refine WL.step rfl (StepTo.storeRow 1 rfl rfl rfl rfl rfl rfl rfl rfl (by omega) setQ ?_) | refine WL.step rfl (StepTo.store1 2 rfl rfl rfl rfl rfl rfl rfl overQ setQ ?_) | refine WL.step rfl (StepTo.storeA 2 rfl rfl rfl rfl rfl rfl rfl rfl overQ setQ ?_) | refine WL.step rfl (StepTo.storeRow 2 rfl rfl rfl rfl rfl rfl rfl rfl (by omega) setQ ?_) | refine WL.step rfl (StepTo.store1 3 rfl rfl rfl rfl rfl rfl rfl overQ setQ ?_) | refine WL.step rfl (StepTo.storeA 3 rfl rfl rfl rfl rfl rfl rfl rfl overQ setQ ?_) | refine WL.step rfl (StepTo.storeRow 3 rfl rfl rfl rfl rfl rfl rfl rfl (by omega) setQ ?_) | refine WL.step rfl (StepTo.store1 4 rfl rfl rfl rfl rfl rfl rfl overQ setQ ?_) | refine WL.step rfl (StepTo.storeA 4 rfl rfl rfl rfl rfl rfl rfl rfl overQ setQ ?_) | refine WL.step rfl (StepTo.storeRow 4 rfl rfl rfl rfl rfl rfl rfl rfl (by omega) setQ ?_) | refine WL.step rfl (StepTo.store1 5 rfl rfl rfl rfl rfl rfl rfl overQ setQ ?_) | refine WL.step rfl (StepTo.storeA 5 rfl rfl rfl rfl rfl rfl rfl rfl overQ setQ ?_) | refine WL.step rfl (StepTo.storeRow 5 rfl rfl rfl rfl rfl rfl rfl rfl (by omega) setQ ?_) | refine WL.step rfl (StepTo.store1 6 rfl rfl rfl rfl rfl rfl rfl overQ setQ ?_) | refine WL.step rfl (StepTo.storeA 6 rfl rfl rfl rfl rfl rfl rfl rfl overQ setQ ?_) | refine WL.step rfl (StepTo.storeRow 6 rfl rfl rfl rfl rfl rfl rfl rfl (by omega) setQ ?_) | refine WL.step rfl (StepTo.store1 7 rfl rfl rfl rfl rfl rfl rfl overQ setQ ?_) | refine WL.step rfl (StepTo.storeA 7 rfl rfl rfl rfl rfl rfl rfl rfl overQ setQ ?_) | refine WL.step rfl (StepTo.storeRow 7 rfl rfl rfl rfl rfl rfl rfl rfl (by omega) setQ ?_) | refine WL.step rfl (StepTo.store1 8 rfl rfl rfl rfl rfl rfl rfl overQ setQ ?_) | refine WL.step rfl (StepTo.storeA 8 rfl rfl rfl rfl rfl rfl rfl rfl overQ setQ ?_) | refine WL.step rfl (StepTo.storeRow 8 rfl rfl rfl rfl rfl rfl rfl rfl (by omega) setQ ?_) | refine WL.step rfl (StepTo.store1 9 rfl rfl rfl rfl rfl rfl rfl overQ setQ ?_) | refine WL.step rfl (StepTo.storeA 9 rfl rfl rfl rfl rfl rfl rfl rfl overQ setQ ?_) | refine WL.step rfl (StepTo.storeRow 9 rfl rfl rfl rfl rfl rfl rfl rfl (by omega) setQ ?_) | refine WL.step rfl (StepTo.store1 10 rfl rfl rfl rfl rfl rfl rfl overQ setQ ?_) | refine WL.step rfl (StepTo.storeA 10 rfl rfl rfl rfl rfl rfl rfl rfl overQ setQ ?_) | refine WL.step rfl (StepTo.storeRow 10 rfl rfl rfl rfl rfl rfl rfl rfl (by omega) setQ ?_) | refine WL.step rfl (StepTo.store1 11 rfl rfl rfl rfl rfl rfl rfl overQ setQ ?_) | refine WL.step rfl (StepTo.storeA 11 rfl rfl rfl rfl rfl rfl rfl rfl overQ setQ ?_) | refine WL.step rfl (StepTo.storeRow 11 rfl rfl rfl rfl rfl rfl rfl rfl (by omega) setQ ?_))
    | with_reducible refine WC.block ?_
    | with_reducible refine WC.scope ?_
    | with_reducible refine WC.label ?_
    | with_reducible refine WQ.ngN ?_
    | with_reducible refine WQ.ngR ?_
    | with_reducible refine WQ.ngX ?_
    | with_reducible refine WC.skip ?_
    | with_reducible refine WC.ret ?_
    | with_reducible refine WC.exit ?_
    | with_reducible refine WQ.thenR ?_
    | with_reducible refine WQ.thenX ?_
    | with_reducible refine WQ.blkN ?_
    | with_reducible refine WQ.blkR ?_
    | ((with_reducible refine WQ.blkX ?_ ?_); focus rfl)
    | ((with_reducible refine WQ.blkY ?_ ?_); focus rfl)
    | refine WC.condT rfl ?_
    | refine WC.condF rfl ?_
    | refine WC.condTh rfl gdQ ?_
    | refine WC.condFh rfl gdQ ?_
    | (refine WC.cond rfl (fun hc => ?_) (fun hc => ?_) <;> (try first | (with_reducible replace hc := of_decide_eq_true hc) | (with_reducible replace hc := of_decide_eq_false hc) | (with_reducible replace hc := eqT hc) | (with_reducible replace hc := eqF hc) | (with_reducible replace hc := neT hc) | (with_reducible replace hc := neF hc) | (with_reducible replace hc := noT hc) | (with_reducible replace hc := noF hc)) <;> (try (exfalso; omega))))
  exact WQ.body (Reads.two rfl (Res1.cellA rfl rfl rfl rfl (AggAt.box 0 rfl rfl)) (Res1.tmp rfl)) fun w' hw' => ⟨rfl, hw'.ext.below⟩

set_option maxHeartbeats 1000000 in
theorem again_yes (cum : Int) (A : Option Addr) (n c : Nat) (ps : List Pc) (x to now : Int) (j : Nat) (p : Pc) (w : World) (hL : Ps w w.heap.size A n ps) (hA : okA A n) (hn : n ≤ 1000000) (hj : ps.findIdx (isLost x) = j) (hp : ps[j]? = some p) {V : Nat → Prop} :
    Calls Try.prog 19 #[.agg #[.int .u32 cum, .slice A n c], .int .u32 x, .int .i64 to, .int .i64 now] w
      fun e w' => ∃ v N, e = .returned v ∧ (∃ A' c', okA A' n ∧ v = .tuple #[.agg #[.int .u32 cum, .slice A' n c'], .bool true] ∧ N = [.row A' n c' 41 7 (flat Pc.cs (ps.set j (resent to now p)))]) ∧ New V N w w' := by
  have hl := hL.len
  have hjn : j < ps.length := (List.getElem?_eq_some_iff.1 hp).1
  refine enterW (fun _ => False) _ Try.func19 rfl (by simp only [Try.ntmps19, List.length_cons, List.length_nil, Nat.reduceAdd, Nat.reduceSub]; rfl) ?_
  refine WC.addVw Pc.cs_len hL ?_
  repeat' (first
    | with_reducible refine WL.nil ?_
    | with_reducible refine WQ.thenN ?_
    | with_reducible refine WQ.code ?_
    | with_reducible refine WC.seq ?_
    | with_reducible refine WC.region ?_
    | ((with_reducible refine WL.isN_move ?_); first | refine WL.yld rfl (Yld.pure rfl nrmQ) ?_)
    | ((with_reducible refine WL.isN_assign ?_); first | refine WL.yld rfl (Yld.pure rfl nrmQ) ?_)
    | ((with_reducible refine WL.isN_bin ?_); first | refine WL.yld rfl (Yld.pure rfl nrmQ) ?_ | refine WL.yld rfl (Yld.rem rfl rfl rfl rfl (by omega) (by omega)) ?_ | refine WL.yld rfl (Yld.quo rfl rfl rfl rfl (by omega) (by omega) nrmQ) ?_ | refine WL.yld rfl (Yld.eqlB rfl rfl rfl rfl) ?_ | refine WL.yld rfl (Yld.neqB rfl rfl rfl rfl) ?_ | refine WL.yld rfl (Yld.eqlA 4 rfl rfl rfl (by kernel_rfl) (by kernel_rfl) rfl rfl) ?_ | refine WL.yld rfl (Yld.neqA 4 rfl rfl rfl (by kernel_rfl) (by kernel_rfl) rfl rfl) ?_ | refine WL.yld rfl (Yld.quoT rfl rfl rfl rfl (by omega) nrmQ) ?_)
    | ((with_reducible refine WL.isN_nil ?_); first | refine WL.yld rfl (Yld.pure rfl nrmQ) ?_)
    | ((with_reducible refine WL.isN_load ?_); first | refine WL.yld rfl (Yld.load rfl rfl rfl rfl cellQ) ?_ | refine WL.yld rfl (Yld.loadAgg rfl rfl rfl rfl rfl aggQ) ?_)
    | ((with_reducible refine WL.isN_faddr ?_); first | refine WL.yld rfl (Yld.fieldAddr rfl rfl rfl rfl rfl rfl rfl) ?_)
    | ((with_reducible refine WL.isN_iaddr ?_); first | refine WL.yld rfl (Yld.indexS 0 rfl rfl rfl rfl rfl rfl (by omega)) ?_ | refine WL.yld rfl (Yld.indexS 1 rfl rfl rfl rfl rfl rfl (by omega)) ?_ | refine WL.yld rfl (Yld.indexS 2 rfl rfl rfl rfl rfl rfl (by omega)) ?_ | refine WL.yld rfl (Yld.indexS _ rfl rfl rfl rfl rfl rfl (by omega)) ?_ | refine WL.yld rfl (Yld.indexA 0 rfl rfl rfl rfl rfl rfl (by omega)) ?_ | refine WL.yld rfl (Yld.indexA 1 rfl rfl rfl rfl rfl rfl (by omega)) ?_ | refine WL.yld rfl (Yld.indexA _ rfl rfl rfl rfl rfl rfl (by omega)) ?_)
    | ((with_reducible refine WL.isN_func ?_); first | refine WL.yld rfl (Yld.func rfl rfl rfl) ?_)
    | ((with_reducible refine WL.isN_call ?_); first | refine WL.step rfl (StepTo.callV (v := .int .i64 j) (us := [.slice A n c, .func (.func 25) #[] #[.pointer (some ⟨_, 0, none⟩)]]) rfl rfl rfl rfl rfl (by kernel_rfl) (fun w' hw' => (indexP_q A n c ps 25 [.pointer (some ⟨_, 0, none⟩)] (isLost x) w' (hw'.lst 3 Pc.cs_len (by omega) rfl) hn (again_pred hw' 1 rfl) (by kernel_rfl)).mono fun e w2 ⟨h1, h2⟩ => ⟨by rw [h1, hj, if_pos (by omega)], h2⟩) ?_) | refine WL.step rfl (StepTo.callN [] (us := [.slice A n c]) rfl rfl rfl rfl rfl (by kernel_rfl) (fun w hw => clone_w A n c ps w (hw.lst 3 Pc.cs_len (by omega) rfl) hn hA) ?_))
    | ((with_reducible refine WL.isN_box ?_); first | refine WL.step rfl (StepTo.boxA rfl rfl rfl rfl (fun _ => ?_)) | refine WL.step rfl (StepTo.box1 rfl rfl rfl rfl rfl (fun _ => ?_)))
    | ((with_reducible refine WL.isN_alloc ?_); first | refine WL.step rfl (StepTo.allocA rfl rfl rfl rfl (fun _ => ?_)) | refine WL.step rfl (StepTo.alloc1 rfl rfl rfl rfl rfl (fun _ => ?_)))
    | ((with_reducible refine WL.isN_store ?_); first | refine WL.step rfl (StepTo.store1 0 rfl rfl rfl rfl rfl rfl rfl overQ setQ ?_) | refine WL.step rfl (StepTo.storeA 0 rfl rfl rfl rfl rfl rfl rfl rfl overQ setQ ?_) | refine WL.step rfl (StepTo.storeRow 0 rfl rfl rfl rfl rfl rfl rfl rfl (by omega) setQ ?_) | refine WL.step rfl (StepTo.store1 1 rfl rfl rfl rfl rfl rfl rfl overQ setQ ?_) | refine WL.step rfl (StepTo.storeA 1 rfl rfl rfl rfl rfl rfl rfl rfl overQ setQ ?_) | refine WL.step rfl (StepTo.storeRow 1 rfl rfl rfl rfl rfl rfl rfl rfl (by omega) setQ ?_) | refine WL.step rfl (StepTo.store1 2 rfl rfl rfl rfl rfl rfl rfl overQ setQ ?_) | refine WL.step rfl (StepTo.storeA 2 rfl rfl rfl rfl rfl rfl rfl rfl overQ setQ ?_) | refine WL.step rfl (StepTo.storeRow 2 rfl rfl rfl rfl rfl rfl rfl rfl (by omega) setQ ?_) | refine WL.step rfl (StepTo.store1 3 rfl rfl rfl rfl rfl rfl rfl overQ setQ ?_) | refine WL.step rfl (StepTo.storeA 3 rfl rfl rfl rfl rfl rfl rfl rfl overQ setQ ?_) | refine WL.step rfl (StepTo.storeRow 3 rfl rfl rfl rfl rfl rfl rfl rfl (by omega) setQ ?_) | refine WL.step rfl (StepTo.store1 4 rfl rfl rfl rfl rfl rfl rfl overQ setQ ?_) | refine WL.step rfl (StepTo.storeA 4 rfl rfl rfl rfl rfl rfl rfl rfl overQ setQ ?_) | refine WL.step rfl (StepTo.storeRow 4 rfl rfl rfl rfl rfl rfl rfl rfl (by omega) setQ ?_) | refine WL.step rfl (StepTo.store1 5 rfl rfl rfl rfl rfl rfl rfl overQ setQ ?_) | refine WL.step rfl (StepTo.storeA 5 rfl rfl rfl rfl rfl rfl rfl rfl overQ setQ ?_) | refine WL.step rfl (StepTo.storeRow 5 rfl rfl rfl rfl rfl rfl rfl rfl (by omega) setQ ?_) | refine WL.step rfl (StepTo.store1 6 rfl rfl rfl rfl rfl rfl rfl overQ setQ ?_) | refine WL.step rfl (StepTo.storeA 6 rfl rfl rfl rfl rfl rfl rfl rfl overQ setQ ?_) | refine WL.step rfl (StepTo.storeRow 6 rfl rfl rfl rfl rfl rfl rfl rfl (by omega) setQ ?_) | refine WL.step rfl (StepTo.store1 7 rfl rfl rfl rfl rfl rfl rfl overQ setQ ?_) | refine WL.step rfl (StepTo.storeA 7 rfl rfl rfl rfl rfl rfl rfl rfl overQ setQ ?_) | refine WL.step rfl (StepTo.storeRow 7 rfl rfl rfl rfl rfl rfl rfl rfl (by omega) setQ ?_) | refine WL.step rfl (StepTo.store1 8 rfl rfl rfl rfl rfl rfl rfl overQ setQ ?_) | refine WL.step rfl (StepTo.storeA 8 rfl rfl rfl rfl rfl rfl rfl rfl overQ setQ ?_) | refine WL.step rfl (StepTo.storeRow 8 rfl rfl rfl rfl rfl rfl rfl rfl (by omega) setQ ?_) | refine WL.step rfl (StepTo.store1 9 rfl rfl rfl rfl rfl rfl rfl overQ setQ ?_) | refine WL.step rfl (StepTo.storeA 9 rfl rfl rfl rfl rfl rfl rfl rfl overQ setQ ?_) | refine WL.step rfl (StepTo.storeRow 9 rfl rfl rfl rfl rfl rfl rfl rfl (by omega) setQ ?_) | refine WL.step rfl (StepTo.store1 10 rfl rfl rfl rfl rfl rfl rfl overQ setQ ?_) | refine WL.step rfl (StepTo.storeA 10 rfl rfl rfl rfl rfl rfl rfl rfl overQ setQ ?_) | refine WL.step rfl (StepTo.storeRow 10 rfl rfl rfl rfl rfl rfl rfl rfl (by omega) setQ ?_) | refine WL.step rfl (StepTo.store1 11 rfl rfl rfl rfl rfl rfl rfl overQ setQ ?_) | refine WL.step rfl (StepTo.storeA 11 rfl rfl rfl rfl rfl rfl rfl rfl overQ setQ ?_) | refine WL.step rfl (StepTo.storeRow 11 rfl rfl rfl rfl rfl rfl rfl rfl (by omega) setQ ?_))
    | with_reducible refine WC.block ?_
    | with_reducible refine WC.scope ?_
    | with_reducible refine WC.label ?_
    | with_reducible refine WQ.ngN ?_
    | with_reducible refine WQ.ngR ?_
    | with_reducible refine WQ.ngX ?_
    | with_reducible refine WC.skip ?_
    | with_reducible refine WC.ret ?_
    | with_reducible refine WC.exit ?_
    | with_reducible refine WQ.thenR ?_
    | with_reducible refine WQ.thenX ?_
    | with_reducible refine WQ.blkN ?_
    | with_reducible refine WQ.blkR ?_
    | ((with_reducible refine WQ.blkX ?_ ?_); focus rfl)
    | ((with_reducible refine WQ.blkY ?_ ?_); focus rfl)
    | refine WC.condT rfl ?_
    | refine WC.condF rfl ?_
    | refine WC.condTh rfl gdQ ?_
    | refine WC.condFh rfl gdQ ?_
    | (refine WC.cond rfl (fun hc => ?_) (fun hc => ?_) <;> (try first | (with_reducible replace hc := of_decide_eq_true hc) | (with_reducible replace hc := of_decide_eq_false hc) | (with_reducible replace hc := eqT hc) | (with_reducible replace hc := eqF hc) | (with_reducible replace hc := neT hc) | (with_reducible replace hc := neF hc) | (with_reducible replace hc := noT hc) | (with_reducible replace hc := noF hc)) <;> (try (exfalso; omega))))
  rename_i bs bx br
  rintro v N ⟨A7, c7, rfl, rfl⟩
  refine WL.rowAt 0 rfl (by omega) fun b7 hA7 => ?_
  subst hA7
  have hpp : PartAt (flat Pc.cs ps) (j * 7) p.cs := PartAt.flat Pc.cs_len hp
  have hg : ∀ q, (ps.set j q)[j]? = some q := fun q => List.getElem?_set_self hjn
  have h1 := flat_cell Pc.cs_len 2 (.int .i64 1) hp (by omega) (x' := { p with state := 1 }) rfl
  have h2 := flat_cell Pc.cs_len 5 (.int .i64 to) (hg { p with state := 1 }) (by omega) (x' := { p with state := 1, path := to }) rfl
  have h3 := flat_cell Pc.cs_len 6 (.int .i64 now) (hg { p with state := 1, path := to }) (by omega) (x' := { p with state := 1, path := to, at_ := now }) rfl
  have h4 := flat_cell Pc.cs_len 4 (.int .i64 (w64 (p.times + 1))) (hg { p with state := 1, path := to, at_ := now }) (by omega) (x' := resent to now p) rfl
  rw [List.set_set] at h2 h3 h4
  have hl0 : (flat Pc.cs ps).length = n * 7 := by rw [flat_len Pc.cs_len, hl]
  have hl1 : ((flat Pc.cs ps).set (0 + j * 7 + 2) (.int .i64 1)).length = n * 7 := by rw [List.length_set, hl0]
  have hl2 : (((flat Pc.cs ps).set (0 + j * 7 + 2) (.int .i64 1)).set (0 + j * 7 + 5) (.int .i64 to)).length = n * 7 := by rw [List.length_set, hl1]
  have hl3 : ((((flat Pc.cs ps).set (0 + j * 7 + 2) (.int .i64 1)).set (0 + j * 7 + 5) (.int .i64 to)).set (0 + j * 7 + 6) (.int .i64 now)).length = n * 7 := by rw [List.length_set, hl2]
  have hall3 : (((flat Pc.cs ps).set (0 + j * 7 + 2) (.int .i64 1)).set (0 + j * 7 + 5) (.int .i64 to)).set (0 + j * 7 + 6) (.int .i64 now) = flat Pc.cs (ps.set j { p with state := 1, path := to, at_ := now }) := by rw [Nat.zero_add, h1, h2, h3]
  have ht4 : ((((flat Pc.cs ps).set (0 + j * 7 + 2) (.int .i64 1)).set (0 + j * 7 + 5) (.int .i64 to)).set (0 + j * 7 + 6) (.int .i64 now))[j * 7 + 4]? = some (.int .i64 p.times) := by
    rw [hall3]; exact PartAt.flat Pc.cs_len (hg { p with state := 1, path := to, at_ := now }) 4 _ rfl
  have hall4 : ((((flat Pc.cs ps).set (0 + j * 7 + 2) (.int .i64 1)).set (0 + j * 7 + 5) (.int .i64 to)).set (0 + j * 7 + 6) (.int .i64 now)).set (0 + j * 7 + 4) (.int .i64 (IntKind.i64.wrap (p.times + 1))) = flat Pc.cs (ps.set j (resent to now p)) := by
    rw [hall3, Nat.zero_add]; exact h4
  clear h1 h2 h3 h4
  repeat' (first
    | with_reducible refine WL.nil ?_
    | with_reducible refine WQ.thenN ?_
    | with_reducible refine WQ.code ?_
    | with_reducible refine WC.seq ?_
    | with_reducible refine WC.region ?_
    | ((with_reducible refine WL.isN_move ?_); first | refine WL.yld rfl (Yld.pure rfl nrmQ) ?_)
    | ((with_reducible refine WL.isN_assign ?_); first | refine WL.yld rfl (Yld.pure rfl nrmQ) ?_)
    | ((with_reducible refine WL.isN_bin ?_); first | refine WL.yld rfl (Yld.pure rfl nrmQ) ?_ | refine WL.yld rfl (Yld.rem rfl rfl rfl rfl (by omega) (by omega)) ?_ | refine WL.yld rfl (Yld.quo rfl rfl rfl rfl (by omega) (by omega) nrmQ) ?_ | refine WL.yld rfl (Yld.eqlB rfl rfl rfl rfl) ?_ | refine WL.yld rfl (Yld.neqB rfl rfl rfl rfl) ?_ | refine WL.yld rfl (Yld.eqlA 4 rfl rfl rfl (by kernel_rfl) (by kernel_rfl) rfl rfl) ?_ | refine WL.yld rfl (Yld.neqA 4 rfl rfl rfl (by kernel_rfl) (by kernel_rfl) rfl rfl) ?_ | refine WL.yld rfl (Yld.quoT rfl rfl rfl rfl (by omega) nrmQ) ?_)
    | ((with_reducible refine WL.isN_nil ?_); first | refine WL.yld rfl (Yld.pure rfl nrmQ) ?_)
    | ((with_reducible refine WL.isN_load ?_); first | refine WL.yld rfl (Yld.load rfl rfl rfl rfl (CellAt.rowE 0 rfl ht4 (by omega))) ?_ | refine WL.yld rfl (Yld.load rfl rfl rfl rfl cellQ) ?_ | refine WL.yld rfl (Yld.loadAgg rfl rfl rfl rfl rfl aggQ) ?_)
    | ((with_reducible refine WL.isN_faddr ?_); first | refine WL.yld rfl (Yld.fieldAddr rfl rfl rfl rfl rfl rfl rfl) ?_)
    | ((with_reducible refine WL.isN_iaddr ?_); first | refine WL.yld rfl (Yld.indexS 0 rfl rfl rfl rfl rfl rfl (by omega)) ?_ | refine WL.yld rfl (Yld.indexS 1 rfl rfl rfl rfl rfl rfl (by omega)) ?_ | refine WL.yld rfl (Yld.indexS 2 rfl rfl rfl rfl rfl rfl (by omega)) ?_ | refine WL.yld rfl (Yld.indexS _ rfl rfl rfl rfl rfl rfl (by omega)) ?_ | refine WL.yld rfl (Yld.indexA 0 rfl rfl rfl rfl rfl rfl (by omega)) ?_ | refine WL.yld rfl (Yld.indexA 1 rfl rfl rfl rfl rfl rfl (by omega)) ?_ | refine WL.yld rfl (Yld.indexA _ rfl rfl rfl rfl rfl rfl (by omega)) ?_)
    | ((with_reducible refine WL.isN_func ?_); first | refine WL.yld rfl (Yld.func rfl rfl rfl) ?_)
    | ((with_reducible refine WL.isN_box ?_); first | refine WL.step rfl (StepTo.boxA rfl rfl rfl rfl (fun _ => ?_)) | refine WL.step rfl (StepTo.box1 rfl rfl rfl rfl rfl (fun _ => ?_)))
    | ((with_reducible refine WL.isN_alloc ?_); first | refine WL.step rfl (StepTo.allocA rfl rfl rfl rfl (fun _ => ?_)) | refine WL.step rfl (StepTo.alloc1 rfl rfl rfl rfl rfl (fun _ => ?_)))
    | ((with_reducible refine WL.isN_store ?_); first | refine WL.step rfl (StepTo.store1 0 rfl rfl rfl rfl rfl rfl rfl overQ setQ ?_) | refine WL.step rfl (StepTo.storeA 0 rfl rfl rfl rfl rfl rfl rfl rfl overQ setQ ?_) | refine WL.step rfl (StepTo.storeRow 0 rfl rfl rfl rfl rfl rfl rfl rfl (by omega) setQ ?_) | refine WL.step rfl (StepTo.store1 1 rfl rfl rfl rfl rfl rfl rfl overQ setQ ?_) | refine WL.step rfl (StepTo.storeA 1 rfl rfl rfl rfl rfl rfl rfl rfl overQ setQ ?_) | refine WL.step rfl (StepTo.storeRow 1 rfl rfl rfl rfl rfl rfl rfl rfl (by omega) setQ ?_) | refine WL.step rfl (StepTo.store1 2 rfl rfl rfl rfl rfl rfl rfl overQ setQ ?_) | refine WL.step rfl (StepTo.storeA 2 rfl rfl rfl rfl rfl rfl rfl rfl overQ setQ ?_) | refine WL.step rfl (StepTo.storeRow 2 rfl rfl rfl rfl rfl rfl rfl rfl (by omega) setQ ?_) | refine WL.step rfl (StepTo.store1 3 rfl rfl rfl rfl rfl rfl rfl overQ setQ ?_) | refine WL.step rfl (StepTo.storeA 3 rfl rfl rfl rfl rfl rfl rfl rfl overQ setQ ?_) | refine WL.step rfl (StepTo.storeRow 3 rfl rfl rfl rfl rfl rfl rfl rfl (by omega) setQ ?_) | refine WL.step rfl (StepTo.store1 4 rfl rfl rfl rfl rfl rfl rfl overQ setQ ?_) | refine WL.step rfl (StepTo.storeA 4 rfl rfl rfl rfl rfl rfl rfl rfl overQ setQ ?_) | refine WL.step rfl (StepTo.storeRow 4 rfl rfl rfl rfl rfl rfl rfl rfl (by omega) setQ ?_) | refine WL.step rfl (StepTo.store1 5 rfl rfl rfl rfl rfl rfl rfl overQ setQ ?_) | refine WL.step rfl (StepTo.storeA 5 rfl rfl rfl rfl rfl rfl rfl rfl overQ setQ ?_) | refine WL.step rfl (StepTo.storeRow 5 rfl rfl rfl rfl rfl rfl rfl rfl (by omega) setQ ?_) | refine WL.step rfl (StepTo.store1 6 rfl rfl rfl rfl rfl rfl rfl overQ setQ ?_) | refine WL.step rfl (StepTo.storeA 6 rfl rfl rfl rfl rfl rfl rfl rfl overQ setQ ?_) | refine WL.step rfl (StepTo.storeRow 6 rfl rfl rfl rfl rfl rfl rfl rfl (by omega) setQ ?_) | refine WL.step rfl (StepTo.store1 7 rfl rfl rfl rfl rfl rfl rfl overQ setQ ?_) | refine WL.step rfl (StepTo.storeA 7 rfl rfl rfl rfl rfl rfl rfl rfl overQ setQ ?_) | refine WL.step rfl (StepTo.storeRow 7 rfl rfl rfl rfl rfl rfl rfl rfl (by omega) setQ ?_) | refine WL.step rfl (StepTo.store1 8 rfl rfl rfl rfl rfl rfl rfl overQ setQ ?_) | refine WL.step rfl (StepTo.storeA 8 rfl rfl rfl rfl rfl rfl rfl rfl overQ setQ ?_) | refine WL.step rfl (StepTo.storeRow 8 rfl rfl rfl rfl rfl rfl rfl rfl (by omega) setQ ?_) | refine WL.step rfl (StepTo.store1 9 rfl rfl rfl rfl rfl rfl rfl overQ setQ ?_) | refine WL.step rfl (StepTo.storeA 9 rfl rfl rfl rfl rfl rfl rfl rfl overQ setQ ?_) | refine WL.step rfl (StepTo.storeRow 9 rfl rfl rfl rfl rfl rfl rfl rfl (by omega) setQ ?_) | refine WL.step rfl (StepTo.store1 10 rfl rfl rfl rfl rfl rfl rfl overQ setQ ?_) | refine WL.step rfl (StepTo.storeA 10 rfl rfl rfl rfl rfl rfl rfl rfl overQ setQ ?_) | refine WL.step rfl (StepTo.storeRow 10 rfl rfl rfl rfl rfl rfl rfl rfl (by omega) setQ ?_) | refine WL.step rfl (StepTo.store1 11 rfl rfl rfl rfl rfl rfl rfl overQ setQ ?_) | refine WL.step rfl (StepTo.storeA 11 rfl rfl rfl rfl rfl rfl rfl rfl overQ setQ ?_) | refine WL.step rfl (StepTo.storeRow 11 rfl rfl rfl rfl rfl rfl rfl rfl (by omega) setQ ?_))
    | with_reducible refine WC.block ?_
    | with_reducible refine WC.scope ?_
    | with_reducible refine WC.label ?_
    | with_reducible refine WQ.ngN ?_
    | with_reducible refine WQ.ngR ?_
    | with_reducible refine WQ.ngX ?_
    | with_reducible refine WC.skip ?_
    | with_reducible refine WC.ret ?_
    | with_reducible refine WC.exit ?_
    | with_reducible refine WQ.thenR ?_
    | with_reducible refine WQ.thenX ?_
    | with_reducible refine WQ.blkN ?_
    | with_reducible refine WQ.blkR ?_
    | ((with_reducible refine WQ.blkX ?_ ?_); focus rfl)
    | ((with_reducible refine WQ.blkY ?_ ?_); focus rfl)
    | refine WC.condT rfl ?_
    | refine WC.condF rfl ?_
    | refine WC.condTh rfl gdQ ?_
    | refine WC.condFh rfl gdQ ?_
    | (refine WC.cond rfl (fun hc => ?_) (fun hc => ?_) <;> (try first | (with_reducible replace hc := of_decide_eq_true hc) | (with_reducible replace hc := of_decide_eq_false hc) | (with_reducible replace hc := eqT hc) | (with_reducible replace hc := eqF hc) | (with_reducible replace hc := neT hc) | (with_reducible replace hc := neF hc) | (with_reducible replace hc := noT hc) | (with_reducible replace hc := noF hc)) <;> (try (exfalso; omega))))
  rw [hall4]
  exact WQ.body (Reads.two rfl (Res1.cellA rfl rfl rfl rfl (AggAt.box 1 rfl rfl)) (Res1.tmp rfl)) fun w' hw' => ⟨_, _, rfl, ⟨_, c7, okA_row b7 n, rfl, rfl⟩, (hw'.pick (idx := [0]) ⟨by decide, rfl⟩).toNew (by simp [Item.mine])⟩
end Go.Proofs.Ythpllkegmjcfaaa
