/- 'marks' of the package sent: which pieces gaps name. -/
import Derived.Test.YthpllkegmjcfaaaSntT
namespace Go.Proofs.Ythpllkegmjcfaaa
open Go.RowKit
set_option linter.unusedVariables false

def gC (g : Nat × Nat) : List Value := [.int .u16 (g.1 : Int), .int .u16 (g.2 : Int)]
theorem gC_len (g : Nat × Nat) : (gC g).length = 2 := rfl
def okG (many : Nat) (g : Nat × Nat) : Prop := 0 < g.1 ∧ g.1 ≤ g.2 ∧ g.2 ≤ many
def inB (gs : List (Nat × Nat)) (y : Nat) : Bool := gs.any fun g => decide (g.1 ≤ y + 1) && decide (y + 1 ≤ g.2)
def marksF (gs : List (Nat × Nat)) (many : Nat) : List Bool := (List.range many).map (inB gs)
def bC (l : List Bool) : List Value := l.map Value.bool
theorem row_set (many k : Nat) (f f' : Nat → Bool) (h : ∀ y, y < many → f' y = if y = k then true else f y) : (bC ((List.range many).map f)).set k (.bool true) = bC ((List.range many).map f') := by
  apply List.ext_getElem
  · simp [bC]
  · intro i h1 h2
    simp [bC] at h1 h2
    rw [List.getElem_set]
    simp only [bC, List.getElem_map, List.getElem_range, List.map_map, Function.comp]
    rw [h i h1]
    by_cases e : k = i
    · simp [e]
    · rw [if_neg e, if_neg (by omega)]
def MarksR (gs : List (Nat × Nat)) (many : Nat) (v : Value) (N : List Item) : Prop :=
  ((∀ g ∈ gs, okG many g) ∧ ∃ b, v = .tuple #[.slice (some ⟨b, 0, none⟩) many many, .bool true] ∧ N = [.row (some ⟨b, 0, none⟩) many many 4 1 (bC (marksF gs many))]) ∨
  (¬ (∀ g ∈ gs, okG many g) ∧ v = .tuple #[.slice none 0 0, .bool false] ∧ N = [])

set_option maxHeartbeats 1000000 in
theorem marks_w (A : Option Addr) (n c : Nat) (gs : List (Nat × Nat)) (many : Nat) (w : World) (hL : Lst gC 2 w w.heap.size A n gs) (hg : ∀ g ∈ gs, g.1 ≤ 65535 ∧ g.2 ≤ 65535) (hn : n ≤ 1000000) (hm : many ≤ 1000000) {V : Nat → Prop} :
    Calls Try.prog 20 #[.slice A n c, .int .i64 many] w fun e w' => ∃ v N, e = .returned v ∧ MarksR gs many v N ∧ New V N w w' := by
  have hl := hL.len
  refine enterW (fun _ => False) _ Try.func20 rfl (by simp only [Try.ntmps20, List.length_cons, List.length_nil, Nat.reduceAdd, Nat.reduceSub]; rfl) ?_
  refine WC.addVw gC_len hL ?_
  repeat' (first
    | with_reducible refine WL.nil ?_
    | with_reducible refine WQ.thenN ?_
    | with_reducible refine WQ.code ?_
    | with_reducible refine WC.seq ?_
    | with_reducible refine WC.region ?_
    | ((with_reducible refine WL.isN_move ?_); first | refine WL.yld rfl (Yld.pure rfl nrmQ) ?_)
    | ((with_reducible refine WL.isN_assign ?_); first | refine WL.yld rfl (Yld.pure rfl nrmQ) ?_)
    | ((with_reducible refine WL.isN_bin ?_); first | refine WL.yld rfl (Yld.pure rfl nrmQ) ?_ | refine WL.yld rfl (Yld.rem rfl rfl rfl rfl (by omega) (by omega)) ?_ | refine WL.yld rfl (Yld.quo rfl rfl rfl rfl (by omega) (by omega) nrmQ) ?_ | refine WL.yld rfl (Yld.eqlB rfl rfl rfl rfl) ?_ | refine WL.yld rfl (Yld.neqB rfl rfl rfl rfl) ?_ | refine WL.yld rfl (Yld.eqlA 4 rfl rfl rfl (by kernel_rfl) (by kernel_rfl) rfl rfl) ?_ | refine WL.yld rfl (Yld.neqA 4 rfl rfl rfl (by kernel_rfl) (by kernel_rfl) rfl rfl) ?_ | refine WL.yld rfl (Yld.quoT rfl rfl rfl rfl (by omega) nrmQ) ?_)
    | ((with_reducible refine WL.isN_load ?_); first | refine WL.yld rfl (Yld.load rfl rfl rfl rfl cellQ) ?_ | refine WL.yld rfl (Yld.loadAgg rfl rfl rfl rfl rfl aggQ) ?_)
    | ((with_reducible refine WL.isN_iaddr ?_); first | refine WL.yld rfl (Yld.indexS 0 rfl rfl rfl rfl rfl rfl (by omega)) ?_ | refine WL.yld rfl (Yld.indexS 1 rfl rfl rfl rfl rfl rfl (by omega)) ?_ | refine WL.yld rfl (Yld.indexS 2 rfl rfl rfl rfl rfl rfl (by omega)) ?_ | refine WL.yld rfl (Yld.indexS _ rfl rfl rfl rfl rfl rfl (by omega)) ?_ | refine WL.yld rfl (Yld.indexA 0 rfl rfl rfl rfl rfl rfl (by omega)) ?_ | refine WL.yld rfl (Yld.indexA 1 rfl rfl rfl rfl rfl rfl (by omega)) ?_ | refine WL.yld rfl (Yld.indexA _ rfl rfl rfl rfl rfl rfl (by omega)) ?_)
    | ((with_reducible refine WL.isN_conv ?_); first | refine WL.yld rfl (Yld.convInt rfl rfl rfl rfl nrmQ) ?_)
    | ((with_reducible refine WL.isN_pick ?_); first | refine WL.yld rfl (Yld.pickT rfl rfl rfl) ?_ | refine WL.yld rfl (Yld.pickF rfl rfl rfl) ?_ | refine WL.yld rfl (Yld.pickTh rfl rfl gdQ rfl) ?_ | refine WL.yld rfl (Yld.pickFh rfl rfl gdQ rfl) ?_ | refine WL.yld rfl (Yld.pickB rfl rfl rfl rfl) ?_)
    | ((with_reducible refine WL.isN_call ?_); first | refine WL.yld rfl (Yld.lenSlice rfl rfl rfl) ?_ | refine WL.yld rfl (Yld.lenStr rfl rfl rfl) ?_)
    | ((with_reducible refine WL.isT ?_); first | refine WL.skipT rfl rfl rfl rfl gdQ ?_ | refine WL.skipU rfl rfl rfl rfl ?_ | refine WL.runT rfl rfl rfl gdQ ?_ | (refine WL.cases rfl rfl rfl (fun hg => ?_) (fun hg => ?_) <;> (try first | (with_reducible replace hg := of_decide_eq_true hg) | (with_reducible replace hg := of_decide_eq_false hg) | (with_reducible replace hg := eqT hg) | (with_reducible replace hg := eqF hg) | (with_reducible replace hg := neT hg) | (with_reducible replace hg := neF hg) | (with_reducible replace hg := noT hg) | (with_reducible replace hg := noF hg)) <;> (try (exfalso; omega))))
    | ((with_reducible refine WL.isF ?_); first | refine WL.skipF rfl rfl rfl rfl gdQ ?_ | refine WL.skipU rfl rfl rfl rfl ?_ | refine WL.runF rfl rfl rfl gdQ ?_ | (refine WL.cases rfl rfl rfl (fun hg => ?_) (fun hg => ?_) <;> (try first | (with_reducible replace hg := of_decide_eq_true hg) | (with_reducible replace hg := of_decide_eq_false hg) | (with_reducible replace hg := eqT hg) | (with_reducible replace hg := eqF hg) | (with_reducible replace hg := neT hg) | (with_reducible replace hg := neF hg) | (with_reducible replace hg := noT hg) | (with_reducible replace hg := noF hg)) <;> (try (exfalso; omega))))
    | ((with_reducible refine WL.isN_alloc ?_); first | refine WL.step rfl (StepTo.allocA rfl rfl rfl rfl (fun _ => ?_)) | refine WL.step rfl (StepTo.alloc1 rfl rfl rfl rfl rfl (fun _ => ?_)))
    | ((with_reducible refine WL.isN_store ?_); first | refine WL.step rfl (StepTo.store1 0 rfl rfl rfl rfl rfl rfl rfl overQ setQ ?_) | refine WL.step rfl (StepTo.storeA 0 rfl rfl rfl rfl rfl rfl rfl rfl overQ setQ ?_) | refine WL.step rfl (StepTo.storeRow 0 rfl rfl rfl rfl rfl rfl rfl rfl (by omega) setQ ?_) | refine WL.step rfl (StepTo.store1 1 rfl rfl rfl rfl rfl rfl rfl overQ setQ ?_) | refine WL.step rfl (StepTo.storeA 1 rfl rfl rfl rfl rfl rfl rfl rfl overQ setQ ?_) | refine WL.step rfl (StepTo.storeRow 1 rfl rfl rfl rfl rfl rfl rfl rfl (by omega) setQ ?_) | refine WL.step rfl (StepTo.store1 2 rfl rfl rfl rfl rfl rfl rfl overQ setQ ?_) | refine WL.step rfl (StepTo.storeA 2 rfl rfl rfl rfl rfl rfl rfl rfl overQ setQ ?_) | refine WL.step rfl (StepTo.storeRow 2 rfl rfl rfl rfl rfl rfl rfl rfl (by omega) setQ ?_) | refine WL.step rfl (StepTo.store1 3 rfl rfl rfl rfl rfl rfl rfl overQ setQ ?_) | refine WL.step rfl (StepTo.storeA 3 rfl rfl rfl rfl rfl rfl rfl rfl overQ setQ ?_) | refine WL.step rfl (StepTo.storeRow 3 rfl rfl rfl rfl rfl rfl rfl rfl (by omega) setQ ?_) | refine WL.step rfl (StepTo.store1 4 rfl rfl rfl rfl rfl rfl rfl overQ setQ ?_) | refine WL.step rfl (StepTo.storeA 4 rfl rfl rfl rfl rfl rfl rfl rfl overQ setQ ?_) | refine WL.step rfl (StepTo.storeRow 4 rfl rfl rfl rfl rfl rfl rfl rfl (by omega) setQ ?_) | refine WL.step rfl (StepTo.store1 5 rfl rfl rfl rfl rfl rfl rfl overQ setQ ?_) | refine WL.step rfl (StepTo.storeA 5 rfl rfl rfl rfl rfl rfl rfl rfl overQ setQ ?_) | refine WL.step rfl (StepTo.storeRow 5 rfl rfl rfl rfl rfl rfl rfl rfl (by omega) setQ ?_) | refine WL.step rfl (StepTo.store1 6 rfl rfl rfl rfl rfl rfl rfl overQ setQ ?_) | refine WL.step rfl (StepTo.storeA 6 rfl rfl rfl rfl rfl rfl rfl rfl overQ setQ ?_) | refine WL.step rfl (StepTo.storeRow 6 rfl rfl rfl rfl rfl rfl rfl rfl (by omega) setQ ?_) | refine WL.step rfl (StepTo.store1 7 rfl rfl rfl rfl rfl rfl rfl overQ setQ ?_) | refine WL.step rfl (StepTo.storeA 7 rfl rfl rfl rfl rfl rfl rfl rfl overQ setQ ?_) | refine WL.step rfl (StepTo.storeRow 7 rfl rfl rfl rfl rfl rfl rfl rfl (by omega) setQ ?_) | refine WL.step rfl (StepTo.store1 8 rfl rfl rfl rfl rfl rfl rfl overQ setQ ?_) | refine WL.step rfl (StepTo.storeA 8 rfl rfl rfl rfl rfl rfl rfl rfl overQ setQ ?_) | refine WL.step rfl (StepTo.storeRow 8 rfl rfl rfl rfl rfl rfl rfl rfl (by omega) setQ ?_) | refine WL.step rfl (StepTo.store1 9 rfl rfl rfl rfl rfl rfl rfl overQ setQ ?_) | refine WL.step rfl (StepTo.storeA 9 rfl rfl rfl rfl rfl rfl rfl rfl overQ setQ ?_) | refine WL.step rfl (StepTo.storeRow 9 rfl rfl rfl rfl rfl rfl rfl rfl (by omega) setQ ?_) | refine WL.step rfl (StepTo.store1 10 rfl rfl rfl rfl rfl rfl rfl overQ setQ ?_) | refine WL.step rfl (StepTo.storeA 10 rfl rfl rfl rfl rfl rfl rfl rfl overQ setQ ?_) | refine WL.step rfl (StepTo.storeRow 10 rfl rfl rfl rfl rfl rfl rfl rfl (by omega) setQ ?_) | refine WL.step rfl (StepTo.store1 11 rfl rfl rfl rfl rfl rfl rfl overQ setQ ?_) | refine WL.step rfl (StepTo.storeA 11 rfl rfl rfl rfl rfl rfl rfl rfl overQ setQ ?_) | refine WL.step rfl (StepTo.storeRow 11 rfl rfl rfl rfl rfl rfl rfl rfl (by omega) setQ ?_))
    | ((with_reducible refine WL.isN_mslice ?_); first | refine WL.step rfl (StepTo.makeRow (m := many) (u := .bool false) rfl rfl rfl rfl rfl rfl rfl rfl rfl rfl rfl rfl rfl (by omega) (fun _ => ?_)))
    | with_reducible refine WC.block ?_
    | with_reducible refine WC.scope ?_
    | with_reducible refine WC.label ?_
    | with_reducible refine WQ.ngN ?_
    | with_reducible refine WQ.ngR ?_
    | with_reducible refine WQ.ngX ?_
    | with_reducible refine WC.skip ?_
    | with_reducible refine WC.ret ?_
    | with_reducible refine WC.exit ?_
    | with_reducible refine WQ.thenR ?_
    | with_reducible refine WQ.thenX ?_
    | with_reducible refine WQ.blkN ?_
    | with_reducible refine WQ.blkR ?_
    | ((with_reducible refine WQ.blkX ?_ ?_); focus rfl)
    | ((with_reducible refine WQ.blkY ?_ ?_); focus rfl)
    | refine WC.condT rfl ?_
    | refine WC.condF rfl ?_
    | refine WC.condTh rfl gdQ ?_
    | refine WC.condFh rfl gdQ ?_
    | (refine WC.cond rfl (fun hc => ?_) (fun hc => ?_) <;> (try first | (with_reducible replace hc := of_decide_eq_true hc) | (with_reducible replace hc := of_decide_eq_false hc) | (with_reducible replace hc := eqT hc) | (with_reducible replace hc := eqF hc) | (with_reducible replace hc := neT hc) | (with_reducible replace hc := neF hc) | (with_reducible replace hc := noT hc) | (with_reducible replace hc := noF hc)) <;> (try (exfalso; omega))))
  rename_i bl
  have e0 : List.replicate (many * 1) (Value.bool false) = bC ((List.range many).map (inB (gs.take 0))) := by
    apply List.ext_getElem
    · simp [bC]
    · intro i h1 h2
      simp [bC, inB]
  refine WC.rowEq 0 (bC ((List.range many).map (inB (gs.take 0)))) rfl e0 ?_
  refine WC.loop (fun mm τ H => ∃ j : Nat, j ≤ n ∧ mm = n - j ∧ (∀ g ∈ gs.take j, okG many g) ∧
      τ = [(1, .int .i64 many), (6, .slice (some ⟨bl, 0, none⟩) many many), (12, .slice A n c), (13, .int .i64 n), (14, .int .i64 j)] ∧ H = [.row (some ⟨bl, 0, none⟩) many many 4 1 (bC ((List.range many).map (inB (gs.take j)))), .vw A n 2 (flat gC gs)])
    n _ _ [0, 1] ?_ ?_ ⟨0, by omega, rfl, by simp, rfl, rfl⟩ ?_
  · exact (by repeat (first | exact Sub.nil | refine Sub.cons rfl ?_ | refine Sub.consE rfl (int_eq (by omega)) ?_))
  · exact ⟨by decide, rfl⟩
  rintro mm τ H ⟨j, hj, rfl, hok, rfl, rfl⟩
  by_cases hlt : j < n
  · obtain ⟨g, hgj⟩ : ∃ g, gs[j]? = some g := ⟨_, List.getElem?_eq_getElem (by omega)⟩
    have hpg : PartAt (flat gC gs) (j * 2) (gC g) := PartAt.flat gC_len hgj
    have hgm := List.mem_of_getElem? hgj
    have hg2 := hg g hgm
    refine WC.vwAt 1 rfl (by omega) fun b off hA => ?_
    subst hA
    have bad : ¬ okG many g → ¬ (∀ g ∈ gs, okG many g) := fun h h' => h (h' g hgm)
    by_cases h1 : g.1 = 0
    · repeat' (first
    | with_reducible refine WL.nil ?_
    | with_reducible refine WQ.thenN ?_
    | with_reducible refine WQ.code ?_
    | with_reducible refine WC.seq ?_
    | with_reducible refine WC.region ?_
    | ((with_reducible refine WL.isN_move ?_); first | refine WL.yld rfl (Yld.pure rfl nrmQ) ?_)
    | ((with_reducible refine WL.isN_assign ?_); first | refine WL.yld rfl (Yld.pure rfl nrmQ) ?_)
    | ((with_reducible refine WL.isN_bin ?_); first | refine WL.yld rfl (Yld.pure rfl nrmQ) ?_ | refine WL.yld rfl (Yld.rem rfl rfl rfl rfl (by omega) (by omega)) ?_ | refine WL.yld rfl (Yld.quo rfl rfl rfl rfl (by omega) (by omega) nrmQ) ?_ | refine WL.yld rfl (Yld.eqlB rfl rfl rfl rfl) ?_ | refine WL.yld rfl (Yld.neqB rfl rfl rfl rfl) ?_ | refine WL.yld rfl (Yld.eqlA 4 rfl rfl rfl (by kernel_rfl) (by kernel_rfl) rfl rfl) ?_ | refine WL.yld rfl (Yld.neqA 4 rfl rfl rfl (by kernel_rfl) (by kernel_rfl) rfl rfl) ?_ | refine WL.yld rfl (Yld.quoT rfl rfl rfl rfl (by omega) nrmQ) ?_)
    | ((with_reducible refine WL.isN_load ?_); first | refine WL.yld rfl (Yld.load rfl rfl rfl rfl cellQ) ?_ | refine WL.yld rfl (Yld.loadAgg rfl rfl rfl rfl rfl aggQ) ?_)
    | ((with_reducible refine WL.isN_iaddr ?_); first | refine WL.yld rfl (Yld.indexS 0 rfl rfl rfl rfl rfl rfl (by omega)) ?_ | refine WL.yld rfl (Yld.indexS 1 rfl rfl rfl rfl rfl rfl (by omega)) ?_ | refine WL.yld rfl (Yld.indexS 2 rfl rfl rfl rfl rfl rfl (by omega)) ?_ | refine WL.yld rfl (Yld.indexS _ rfl rfl rfl rfl rfl rfl (by omega)) ?_ | refine WL.yld rfl (Yld.indexA 0 rfl rfl rfl rfl rfl rfl (by omega)) ?_ | refine WL.yld rfl (Yld.indexA 1 rfl rfl rfl rfl rfl rfl (by omega)) ?_ | refine WL.yld rfl (Yld.indexA _ rfl rfl rfl rfl rfl rfl (by omega)) ?_)
    | ((with_reducible refine WL.isN_conv ?_); first | refine WL.yld rfl (Yld.convInt rfl rfl rfl rfl nrmQ) ?_)
    | ((with_reducible refine WL.isN_pick ?_); first | refine WL.yld rfl (Yld.pickT rfl rfl rfl) ?_ | refine WL.yld rfl (Yld.pickF rfl rfl rfl) ?_ | refine WL.yld rfl (Yld.pickTh rfl rfl gdQ rfl) ?_ | refine WL.yld rfl (Yld.pickFh rfl rfl gdQ rfl) ?_ | refine WL.yld rfl (Yld.pickB rfl rfl rfl rfl) ?_)
    | ((with_reducible refine WL.isN_call ?_); first | refine WL.yld rfl (Yld.lenSlice rfl rfl rfl) ?_ | refine WL.yld rfl (Yld.lenStr rfl rfl rfl) ?_)
    | ((with_reducible refine WL.isT ?_); first | refine WL.skipT rfl rfl rfl rfl gdQ ?_ | refine WL.skipU rfl rfl rfl rfl ?_ | refine WL.runT rfl rfl rfl gdQ ?_ | (refine WL.cases rfl rfl rfl (fun hg => ?_) (fun hg => ?_) <;> (try first | (with_reducible replace hg := of_decide_eq_true hg) | (with_reducible replace hg := of_decide_eq_false hg) | (with_reducible replace hg := eqT hg) | (with_reducible replace hg := eqF hg) | (with_reducible replace hg := neT hg) | (with_reducible replace hg := neF hg) | (with_reducible replace hg := noT hg) | (with_reducible replace hg := noF hg)) <;> (try (exfalso; omega))))
    | ((with_reducible refine WL.isF ?_); first | refine WL.skipF rfl rfl rfl rfl gdQ ?_ | refine WL.skipU rfl rfl rfl rfl ?_ | refine WL.runF rfl rfl rfl gdQ ?_ | (refine WL.cases rfl rfl rfl (fun hg => ?_) (fun hg => ?_) <;> (try first | (with_reducible replace hg := of_decide_eq_true hg) | (with_reducible replace hg := of_decide_eq_false hg) | (with_reducible replace hg := eqT hg) | (with_reducible replace hg := eqF hg) | (with_reducible replace hg := neT hg) | (with_reducible replace hg := neF hg) | (with_reducible replace hg := noT hg) | (with_reducible replace hg := noF hg)) <;> (try (exfalso; omega))))
    | ((with_reducible refine WL.isN_alloc ?_); first | refine WL.step rfl (StepTo.allocA rfl rfl rfl rfl (fun _ => ?_)) | refine WL.step rfl (StepTo.alloc1 rfl rfl rfl rfl rfl (fun _ => ?_)))
    | ((with_reducible refine WL.isN_store ?_); first | refine WL.step rfl (StepTo.store1 0 rfl rfl rfl rfl rfl rfl rfl overQ setQ ?_) | refine WL.step rfl (StepTo.storeA 0 rfl rfl rfl rfl rfl rfl rfl rfl overQ setQ ?_) | refine WL.step rfl (StepTo.storeRow 0 rfl rfl rfl rfl rfl rfl rfl rfl (by omega) setQ ?_) | refine WL.step rfl (StepTo.store1 1 rfl rfl rfl rfl rfl rfl rfl overQ setQ ?_) | refine WL.step rfl (StepTo.storeA 1 rfl rfl rfl rfl rfl rfl rfl rfl overQ setQ ?_) | refine WL.step rfl (StepTo.storeRow 1 rfl rfl rfl rfl rfl rfl rfl rfl (by omega) setQ ?_) | refine WL.step rfl (StepTo.store1 2 rfl rfl rfl rfl rfl rfl rfl overQ setQ ?_) | refine WL.step rfl (StepTo.storeA 2 rfl rfl rfl rfl rfl rfl rfl rfl overQ setQ ?_) | refine WL.step rfl (StepTo.storeRow 2 rfl rfl rfl rfl rfl rfl rfl rfl (by omega) setQ ?_) | refine WL.step rfl (StepTo.store1 3 rfl rfl rfl rfl rfl rfl rfl overQ setQ ?_) | refine WL.step rfl (StepTo.storeA 3 rfl rfl rfl rfl rfl rfl rfl rfl overQ setQ ?_) | refine WL.step rfl (StepTo.storeRow 3 rfl rfl rfl rfl rfl rfl rfl rfl (by omega) setQ ?_) | refine WL.step rfl (StepTo.store1 4 rfl rfl rfl rfl rfl rfl rfl overQ setQ ?_) | refine WL.step rfl (StepTo.storeA 4 rfl rfl rfl rfl rfl rfl rfl rfl overQ setQ ?_) | refine WL.step rfl (StepTo.storeRow 4 rfl rfl rfl rfl rfl rfl rfl rfl (by omega) setQ ?_) | refine WL.step rfl (StepTo.store1 5 rfl rfl rfl rfl rfl rfl rfl overQ setQ ?_) | refine WL.step rfl (StepTo.storeA 5 rfl rfl rfl rfl rfl rfl rfl rfl overQ setQ ?_) | refine WL.step rfl (StepTo.storeRow 5 rfl rfl rfl rfl rfl rfl rfl rfl (by omega) setQ ?_) | refine WL.step rfl (StepTo.store1 6 rfl rfl rfl rfl rfl rfl rfl overQ setQ ?_) | refine WL.step rfl (StepTo.storeA 6 rfl rfl rfl rfl rfl rfl rfl rfl overQ setQ ?_) | refine WL.step rfl (StepTo.storeRow 6 rfl rfl rfl rfl rfl rfl rfl rfl (by omega) setQ ?_) | refine WL.step rfl (StepTo.store1 7 rfl rfl rfl rfl rfl rfl rfl overQ setQ ?_) | refine WL.step rfl (StepTo.storeA 7 rfl rfl rfl rfl rfl rfl rfl rfl overQ setQ ?_) | refine WL.step rfl (StepTo.storeRow 7 rfl rfl rfl rfl rfl rfl rfl rfl (by omega) setQ ?_) | refine WL.step rfl (StepTo.store1 8 rfl rfl rfl rfl rfl rfl rfl overQ setQ ?_) | refine WL.step rfl (StepTo.storeA 8 rfl rfl rfl rfl rfl rfl rfl rfl overQ setQ ?_) | refine WL.step rfl (StepTo.storeRow 8 rfl rfl rfl rfl rfl rfl rfl rfl (by omega) setQ ?_) | refine WL.step rfl (StepTo.store1 9 rfl rfl rfl rfl rfl rfl rfl overQ setQ ?_) | refine WL.step rfl (StepTo.storeA 9 rfl rfl rfl rfl rfl rfl rfl rfl overQ setQ ?_) | refine WL.step rfl (StepTo.storeRow 9 rfl rfl rfl rfl rfl rfl rfl rfl (by omega) setQ ?_) | refine WL.step rfl (StepTo.store1 10 rfl rfl rfl rfl rfl rfl rfl overQ setQ ?_) | refine WL.step rfl (StepTo.storeA 10 rfl rfl rfl rfl rfl rfl rfl rfl overQ setQ ?_) | refine WL.step rfl (StepTo.storeRow 10 rfl rfl rfl rfl rfl rfl rfl rfl (by omega) setQ ?_) | refine WL.step rfl (StepTo.store1 11 rfl rfl rfl rfl rfl rfl rfl overQ setQ ?_) | refine WL.step rfl (StepTo.storeA 11 rfl rfl rfl rfl rfl rfl rfl rfl overQ setQ ?_) | refine WL.step rfl (StepTo.storeRow 11 rfl rfl rfl rfl rfl rfl rfl rfl (by omega) setQ ?_))
    | with_reducible refine WC.block ?_
    | with_reducible refine WC.scope ?_
    | with_reducible refine WC.label ?_
    | with_reducible refine WQ.ngN ?_
    | with_reducible refine WQ.ngR ?_
    | with_reducible refine WQ.ngX ?_
    | with_reducible refine WC.skip ?_
    | with_reducible refine WC.ret ?_
    | with_reducible refine WC.exit ?_
    | with_reducible refine WQ.thenR ?_
    | with_reducible refine WQ.thenX ?_
    | with_reducible refine WQ.blkN ?_
    | with_reducible refine WQ.blkR ?_
    | ((with_reducible refine WQ.blkX ?_ ?_); focus rfl)
    | ((with_reducible refine WQ.blkY ?_ ?_); focus rfl)
    | refine WC.condT rfl ?_
    | refine WC.condF rfl ?_
    | refine WC.condTh rfl gdQ ?_
    | refine WC.condFh rfl gdQ ?_
    | (refine WC.cond rfl (fun hc => ?_) (fun hc => ?_) <;> (try first | (with_reducible replace hc := of_decide_eq_true hc) | (with_reducible replace hc := of_decide_eq_false hc) | (with_reducible replace hc := eqT hc) | (with_reducible replace hc := eqF hc) | (with_reducible replace hc := neT hc) | (with_reducible replace hc := neF hc) | (with_reducible replace hc := noT hc) | (with_reducible replace hc := noF hc)) <;> (try (exfalso; omega))))
      exact WQ.body (Reads.tmp2 rfl rfl rfl) fun w' hw' => ⟨_, [], rfl, .inr ⟨bad (by unfold okG; omega), rfl, rfl⟩, (hw'.pick (idx := []) ⟨by decide, rfl⟩).toNew (by simp)⟩
    · by_cases h2 : g.2 < g.1
      · repeat' (first
    | with_reducible refine WL.nil ?_
    | with_reducible refine WQ.thenN ?_
    | with_reducible refine WQ.code ?_
    | with_reducible refine WC.seq ?_
    | with_reducible refine WC.region ?_
    | ((with_reducible refine WL.isN_move ?_); first | refine WL.yld rfl (Yld.pure rfl nrmQ) ?_)
    | ((with_reducible refine WL.isN_assign ?_); first | refine WL.yld rfl (Yld.pure rfl nrmQ) ?_)
    | ((with_reducible refine WL.isN_bin ?_); first | refine WL.yld rfl (Yld.pure rfl nrmQ) ?_ | refine WL.yld rfl (Yld.rem rfl rfl rfl rfl (by omega) (by omega)) ?_ | refine WL.yld rfl (Yld.quo rfl rfl rfl rfl (by omega) (by omega) nrmQ) ?_ | refine WL.yld rfl (Yld.eqlB rfl rfl rfl rfl) ?_ | refine WL.yld rfl (Yld.neqB rfl rfl rfl rfl) ?_ | refine WL.yld rfl (Yld.eqlA 4 rfl rfl rfl (by kernel_rfl) (by kernel_rfl) rfl rfl) ?_ | refine WL.yld rfl (Yld.neqA 4 rfl rfl rfl (by kernel_rfl) (by kernel_rfl) rfl rfl) ?_ | refine WL.yld rfl (Yld.quoT rfl rfl rfl rfl (by omega) nrmQ) ?_)
    | ((with_reducible refine WL.isN_load ?_); first | refine WL.yld rfl (Yld.load rfl rfl rfl rfl cellQ) ?_ | refine WL.yld rfl (Yld.loadAgg rfl rfl rfl rfl rfl aggQ) ?_)
    | ((with_reducible refine WL.isN_iaddr ?_); first | refine WL.yld rfl (Yld.indexS 0 rfl rfl rfl rfl rfl rfl (by omega)) ?_ | refine WL.yld rfl (Yld.indexS 1 rfl rfl rfl rfl rfl rfl (by omega)) ?_ | refine WL.yld rfl (Yld.indexS 2 rfl rfl rfl rfl rfl rfl (by omega)) ?_ | refine WL.yld rfl (Yld.indexS _ rfl rfl rfl rfl rfl rfl (by omega)) ?_ | refine WL.yld rfl (Yld.indexA 0 rfl rfl rfl rfl rfl rfl (by omega)) ?_ | refine WL.yld rfl (Yld.indexA 1 rfl rfl rfl rfl rfl rfl (by omega)) ?_ | refine WL.yld rfl (Yld.indexA _ rfl rfl rfl rfl rfl rfl (by omega)) ?_)
    | ((with_reducible refine WL.isN_conv ?_); first | refine WL.yld rfl (Yld.convInt rfl rfl rfl rfl nrmQ) ?_)
    | ((with_reducible refine WL.isN_pick ?_); first | refine WL.yld rfl (Yld.pickT rfl rfl rfl) ?_ | refine WL.yld rfl (Yld.pickF rfl rfl rfl) ?_ | refine WL.yld rfl (Yld.pickTh rfl rfl gdQ rfl) ?_ | refine WL.yld rfl (Yld.pickFh rfl rfl gdQ rfl) ?_ | refine WL.yld rfl (Yld.pickB rfl rfl rfl rfl) ?_)
    | ((with_reducible refine WL.isN_call ?_); first | refine WL.yld rfl (Yld.lenSlice rfl rfl rfl) ?_ | refine WL.yld rfl (Yld.lenStr rfl rfl rfl) ?_)
    | ((with_reducible refine WL.isT ?_); first | refine WL.skipT rfl rfl rfl rfl gdQ ?_ | refine WL.skipU rfl rfl rfl rfl ?_ | refine WL.runT rfl rfl rfl gdQ ?_ | (refine WL.cases rfl rfl rfl (fun hg => ?_) (fun hg => ?_) <;> (try first | (with_reducible replace hg := of_decide_eq_true hg) | (with_reducible replace hg := of_decide_eq_false hg) | (with_reducible replace hg := eqT hg) | (with_reducible replace hg := eqF hg) | (with_reducible replace hg := neT hg) | (with_reducible replace hg := neF hg) | (with_reducible replace hg := noT hg) | (with_reducible replace hg := noF hg)) <;> (try (exfalso; omega))))
    | ((with_reducible refine WL.isF ?_); first | refine WL.skipF rfl rfl rfl rfl gdQ ?_ | refine WL.skipU rfl rfl rfl rfl ?_ | refine WL.runF rfl rfl rfl gdQ ?_ | (refine WL.cases rfl rfl rfl (fun hg => ?_) (fun hg => ?_) <;> (try first | (with_reducible replace hg := of_decide_eq_true hg) | (with_reducible replace hg := of_decide_eq_false hg) | (with_reducible replace hg := eqT hg) | (with_reducible replace hg := eqF hg) | (with_reducible replace hg := neT hg) | (with_reducible replace hg := neF hg) | (with_reducible replace hg := noT hg) | (with_reducible replace hg := noF hg)) <;> (try (exfalso; omega))))
    | ((with_reducible refine WL.isN_alloc ?_); first | refine WL.step rfl (StepTo.allocA rfl rfl rfl rfl (fun _ => ?_)) | refine WL.step rfl (StepTo.alloc1 rfl rfl rfl rfl rfl (fun _ => ?_)))
    | ((with_reducible refine WL.isN_store ?_); first | refine WL.step rfl (StepTo.store1 0 rfl rfl rfl rfl rfl rfl rfl overQ setQ ?_) | refine WL.step rfl (StepTo.storeA 0 rfl rfl rfl rfl rfl rfl rfl rfl overQ setQ ?_) | refine WL.step rfl (StepTo.storeRow 0 rfl rfl rfl rfl rfl rfl rfl rfl (by omega) setQ ?_) | refine WL.step rfl (StepTo.store1 1 rfl rfl rfl rfl rfl rfl rfl overQ setQ ?_) | refine WL.step rfl (StepTo.storeA 1 rfl rfl rfl rfl rfl rfl rfl rfl overQ setQ ?_) | refine WL.step rfl (StepTo.storeRow 1 rfl rfl rfl rfl rfl rfl rfl rfl (by omega) setQ ?_) | refine WL.step rfl (StepTo.store1 2 rfl rfl rfl rfl rfl rfl rfl overQ setQ ?_) | refine WL.step rfl (StepTo.storeA 2 rfl rfl rfl rfl rfl rfl rfl rfl overQ setQ ?_) | refine WL.step rfl (StepTo.storeRow 2 rfl rfl rfl rfl rfl rfl rfl rfl (by omega) setQ ?_) | refine WL.step rfl (StepTo.store1 3 rfl rfl rfl rfl rfl rfl rfl overQ setQ ?_) | refine WL.step rfl (StepTo.storeA 3 rfl rfl rfl rfl rfl rfl rfl rfl overQ setQ ?_) | refine WL.step rfl (StepTo.storeRow 3 rfl rfl rfl rfl rfl rfl rfl rfl (by omega) setQ ?_) | refine WL.step rfl (StepTo.store1 4 rfl rfl rfl rfl rfl rfl rfl overQ setQ ?_) | refine WL.step rfl (StepTo.storeA 4 rfl rfl rfl rfl rfl rfl rfl rfl overQ setQ ?_) | refine WL.step rfl (StepTo.storeRow 4 rfl rfl rfl rfl rfl rfl rfl rfl (by omega) setQ ?_) | refine WL.step rfl (StepTo.store1 5 rfl rfl rfl rfl rfl rfl rfl overQ setQ ?_) | refine WL.step rfl (StepTo.storeA 5 rfl rfl rfl rfl rfl rfl rfl rfl overQ setQ ?_) | refine WL.step rfl (StepTo.storeRow 5 rfl rfl rfl rfl rfl rfl rfl rfl (by omega) setQ ?_) | refine WL.step rfl (StepTo.store1 6 rfl rfl rfl rfl rfl rfl rfl overQ setQ ?_) | refine WL.step rfl (StepTo.storeA 6 rfl rfl rfl rfl rfl rfl rfl rfl overQ setQ ?_) | refine WL.step rfl (StepTo.storeRow 6 rfl rfl rfl rfl rfl rfl rfl rfl (by omega) setQ ?_) | refine WL.step rfl (StepTo.store1 7 rfl rfl rfl rfl rfl rfl rfl overQ setQ ?_) | refine WL.step rfl (StepTo.storeA 7 rfl rfl rfl rfl rfl rfl rfl rfl overQ setQ ?_) | refine WL.step rfl (StepTo.storeRow 7 rfl rfl rfl rfl rfl rfl rfl rfl (by omega) setQ ?_) | refine WL.step rfl (StepTo.store1 8 rfl rfl rfl rfl rfl rfl rfl overQ setQ ?_) | refine WL.step rfl (StepTo.storeA 8 rfl rfl rfl rfl rfl rfl rfl rfl overQ setQ ?_) | refine WL.step rfl (StepTo.storeRow 8 rfl rfl rfl rfl rfl rfl rfl rfl (by omega) setQ ?_) | refine WL.step rfl (StepTo.store1 9 rfl rfl rfl rfl rfl rfl rfl overQ setQ ?_) | refine WL.step rfl (StepTo.storeA 9 rfl rfl rfl rfl rfl rfl rfl rfl overQ setQ ?_) | refine WL.step rfl (StepTo.storeRow 9 rfl rfl rfl rfl rfl rfl rfl rfl (by omega) setQ ?_) | refine WL.step rfl (StepTo.store1 10 rfl rfl rfl rfl rfl rfl rfl overQ setQ ?_) | refine WL.step rfl (StepTo.storeA 10 rfl rfl rfl rfl rfl rfl rfl rfl overQ setQ ?_) | refine WL.step rfl (StepTo.storeRow 10 rfl rfl rfl rfl rfl rfl rfl rfl (by omega) setQ ?_) | refine WL.step rfl (StepTo.store1 11 rfl rfl rfl rfl rfl rfl rfl overQ setQ ?_) | refine WL.step rfl (StepTo.storeA 11 rfl rfl rfl rfl rfl rfl rfl rfl overQ setQ ?_) | refine WL.step rfl (StepTo.storeRow 11 rfl rfl rfl rfl rfl rfl rfl rfl (by omega) setQ ?_))
    | with_reducible refine WC.block ?_
    | with_reducible refine WC.scope ?_
    | with_reducible refine WC.label ?_
    | with_reducible refine WQ.ngN ?_
    | with_reducible refine WQ.ngR ?_
    | with_reducible refine WQ.ngX ?_
    | with_reducible refine WC.skip ?_
    | with_reducible refine WC.ret ?_
    | with_reducible refine WC.exit ?_
    | with_reducible refine WQ.thenR ?_
    | with_reducible refine WQ.thenX ?_
    | with_reducible refine WQ.blkN ?_
    | with_reducible refine WQ.blkR ?_
    | ((with_reducible refine WQ.blkX ?_ ?_); focus rfl)
    | ((with_reducible refine WQ.blkY ?_ ?_); focus rfl)
    | refine WC.condT rfl ?_
    | refine WC.condF rfl ?_
    | refine WC.condTh rfl gdQ ?_
    | refine WC.condFh rfl gdQ ?_
    | (refine WC.cond rfl (fun hc => ?_) (fun hc => ?_) <;> (try first | (with_reducible replace hc := of_decide_eq_true hc) | (with_reducible replace hc := of_decide_eq_false hc) | (with_reducible replace hc := eqT hc) | (with_reducible replace hc := eqF hc) | (with_reducible replace hc := neT hc) | (with_reducible replace hc := neF hc) | (with_reducible replace hc := noT hc) | (with_reducible replace hc := noF hc)) <;> (try (exfalso; omega))))
        exact WQ.body (Reads.tmp2 rfl rfl rfl) fun w' hw' => ⟨_, [], rfl, .inr ⟨bad (by unfold okG; omega), rfl, rfl⟩, (hw'.pick (idx := []) ⟨by decide, rfl⟩).toNew (by simp)⟩
      · by_cases h3 : many < g.2
        · repeat' (first
    | with_reducible refine WL.nil ?_
    | with_reducible refine WQ.thenN ?_
    | with_reducible refine WQ.code ?_
    | with_reducible refine WC.seq ?_
    | with_reducible refine WC.region ?_
    | ((with_reducible refine WL.isN_move ?_); first | refine WL.yld rfl (Yld.pure rfl nrmQ) ?_)
    | ((with_reducible refine WL.isN_assign ?_); first | refine WL.yld rfl (Yld.pure rfl nrmQ) ?_)
    | ((with_reducible refine WL.isN_bin ?_); first | refine WL.yld rfl (Yld.pure rfl nrmQ) ?_ | refine WL.yld rfl (Yld.rem rfl rfl rfl rfl (by omega) (by omega)) ?_ | refine WL.yld rfl (Yld.quo rfl rfl rfl rfl (by omega) (by omega) nrmQ) ?_ | refine WL.yld rfl (Yld.eqlB rfl rfl rfl rfl) ?_ | refine WL.yld rfl (Yld.neqB rfl rfl rfl rfl) ?_ | refine WL.yld rfl (Yld.eqlA 4 rfl rfl rfl (by kernel_rfl) (by kernel_rfl) rfl rfl) ?_ | refine WL.yld rfl (Yld.neqA 4 rfl rfl rfl (by kernel_rfl) (by kernel_rfl) rfl rfl) ?_ | refine WL.yld rfl (Yld.quoT rfl rfl rfl rfl (by omega) nrmQ) ?_)
    | ((with_reducible refine WL.isN_load ?_); first | refine WL.yld rfl (Yld.load rfl rfl rfl rfl cellQ) ?_ | refine WL.yld rfl (Yld.loadAgg rfl rfl rfl rfl rfl aggQ) ?_)
    | ((with_reducible refine WL.isN_iaddr ?_); first | refine WL.yld rfl (Yld.indexS 0 rfl rfl rfl rfl rfl rfl (by omega)) ?_ | refine WL.yld rfl (Yld.indexS 1 rfl rfl rfl rfl rfl rfl (by omega)) ?_ | refine WL.yld rfl (Yld.indexS 2 rfl rfl rfl rfl rfl rfl (by omega)) ?_ | refine WL.yld rfl (Yld.indexS _ rfl rfl rfl rfl rfl rfl (by omega)) ?_ | refine WL.yld rfl (Yld.indexA 0 rfl rfl rfl rfl rfl rfl (by omega)) ?_ | refine WL.yld rfl (Yld.indexA 1 rfl rfl rfl rfl rfl rfl (by omega)) ?_ | refine WL.yld rfl (Yld.indexA _ rfl rfl rfl rfl rfl rfl (by omega)) ?_)
    | ((with_reducible refine WL.isN_conv ?_); first | refine WL.yld rfl (Yld.convInt rfl rfl rfl rfl nrmQ) ?_)
    | ((with_reducible refine WL.isN_pick ?_); first | refine WL.yld rfl (Yld.pickT rfl rfl rfl) ?_ | refine WL.yld rfl (Yld.pickF rfl rfl rfl) ?_ | refine WL.yld rfl (Yld.pickTh rfl rfl gdQ rfl) ?_ | refine WL.yld rfl (Yld.pickFh rfl rfl gdQ rfl) ?_ | refine WL.yld rfl (Yld.pickB rfl rfl rfl rfl) ?_)
    | ((with_reducible refine WL.isN_call ?_); first | refine WL.yld rfl (Yld.lenSlice rfl rfl rfl) ?_ | refine WL.yld rfl (Yld.lenStr rfl rfl rfl) ?_)
    | ((with_reducible refine WL.isT ?_); first | refine WL.skipT rfl rfl rfl rfl gdQ ?_ | refine WL.skipU rfl rfl rfl rfl ?_ | refine WL.runT rfl rfl rfl gdQ ?_ | (refine WL.cases rfl rfl rfl (fun hg => ?_) (fun hg => ?_) <;> (try first | (with_reducible replace hg := of_decide_eq_true hg) | (with_reducible replace hg := of_decide_eq_false hg) | (with_reducible replace hg := eqT hg) | (with_reducible replace hg := eqF hg) | (with_reducible replace hg := neT hg) | (with_reducible replace hg := neF hg) | (with_reducible replace hg := noT hg) | (with_reducible replace hg := noF hg)) <;> (try (exfalso; omega))))
    | ((with_reducible refine WL.isF ?_); first | refine WL.skipF rfl rfl rfl rfl gdQ ?_ | refine WL.skipU rfl rfl rfl rfl ?_ | refine WL.runF rfl rfl rfl gdQ ?_ | (refine WL.cases rfl rfl rfl (fun hg => ?_) (fun hg => ?_) <;> (try first | (with_reducible replace hg := of_decide_eq_true hg) | (with_reducible replace hg := of_decide_eq_false hg) | (with_reducible replace hg := eqT hg) | (with_reducible replace hg := eqF hg) | (with_reducible replace hg := neT hg) | (with_reducible replace hg := neF hg) | (with_reducible replace hg := noT hg) | (with_reducible replace hg := noF hg)) <;> (try (exfalso; omega))))
    | ((with_reducible refine WL.isN_alloc ?_); first | refine WL.step rfl (StepTo.allocA rfl rfl rfl rfl (fun _ => ?_)) | refine WL.step rfl (StepTo.alloc1 rfl rfl rfl rfl rfl (fun _ => ?_)))
    | ((with_reducible refine WL.isN_store ?_); first | refine WL.step rfl (StepTo.store1 0 rfl rfl rfl rfl rfl rfl rfl overQ setQ ?_) | refine WL.step rfl (StepTo.storeA 0 rfl rfl rfl rfl rfl rfl rfl rfl overQ setQ ?_) | refine WL.step rfl (StepTo.storeRow 0 rfl rfl rfl rfl rfl rfl rfl rfl (by omega) setQ ?_) | refine WL.step rfl (StepTo.store1 1 rfl rfl rfl rfl rfl rfl rfl overQ setQ ?_) | refine WL.step rfl (StepTo.storeA 1 rfl rfl rfl rfl rfl rfl rfl rfl overQ setQ ?_) | refine WL.step rfl (StepTo.storeRow 1 rfl rfl rfl rfl rfl rfl rfl rfl (by omega) setQ ?_) | refine WL.step rfl (StepTo.store1 2 rfl rfl rfl rfl rfl rfl rfl overQ setQ ?_) | refine WL.step rfl (StepTo.storeA 2 rfl rfl rfl rfl rfl rfl rfl rfl overQ setQ ?_) | refine WL.step rfl (StepTo.storeRow 2 rfl rfl rfl rfl rfl rfl rfl rfl (by omega) setQ ?_) | refine WL.step rfl (StepTo.store1 3 rfl rfl rfl rfl rfl rfl rfl overQ setQ ?_) | refine WL.step rfl (StepTo.storeA 3 rfl rfl rfl rfl rfl rfl rfl rfl overQ setQ ?_) | refine WL.step rfl (StepTo.storeRow 3 rfl rfl rfl rfl rfl rfl rfl rfl (by omega) setQ ?_) | refine WL.step rfl (StepTo.store1 4 rfl rfl rfl rfl rfl rfl rfl overQ setQ ?_) | refine WL.step rfl (StepTo.storeA 4 rfl rfl rfl rfl rfl rfl rfl rfl overQ setQ ?_) | refine WL.step rfl (StepTo.storeRow 4 rfl rfl rfl rfl rfl rfl rfl rfl (by omega) setQ ?_) | refine WL.step rfl (StepTo.store1 5 rfl rfl rfl rfl rfl rfl rfl overQ setQ ?_) | refine WL.step rfl (StepTo.storeA 5 rfl rfl rfl rfl rfl rfl rfl rfl overQ setQ ?_) | refine WL.step rfl (StepTo.storeRow 5 rfl rfl rfl rfl rfl rfl rfl rfl (by omega) setQ ?_) | refine WL.step rfl (StepTo.store1 6 rfl rfl rfl rfl rfl rfl rfl overQ setQ ?_) | refine WL.step rfl (StepTo.storeA 6 rfl rfl rfl rfl rfl rfl rfl rfl overQ setQ ?_) | refine WL.step rfl (StepTo.storeRow 6 rfl rfl rfl rfl rfl rfl rfl rfl (by omega) setQ ?_) | refine WL.step rfl (StepTo.store1 7 rfl rfl rfl rfl rfl rfl rfl overQ setQ ?_) | refine WL.step rfl (StepTo.storeA 7 rfl rfl rfl rfl rfl rfl rfl rfl overQ setQ ?_) | refine WL.step rfl (StepTo.storeRow 7 rfl rfl rfl rfl rfl rfl rfl rfl (by omega) setQ ?_) | refine WL.step rfl (StepTo.store1 8 rfl rfl rfl rfl rfl rfl rfl overQ setQ ?_) | refine WL.step rfl (StepTo.storeA 8 rfl rfl rfl rfl rfl rfl rfl rfl overQ setQ ?_) | refine WL.step rfl (StepTo.storeRow 8 rfl rfl rfl rfl rfl rfl rfl rfl (by omega) setQ ?_) | refine WL.step rfl (StepTo.store1 9 rfl rfl rfl rfl rfl rfl rfl overQ setQ ?_) | refine WL.step rfl (StepTo.storeA 9 rfl rfl rfl rfl rfl rfl rfl rfl overQ setQ ?_) | refine WL.step rfl (StepTo.storeRow 9 rfl rfl rfl rfl rfl rfl rfl rfl (by omega) setQ ?_) | refine WL.step rfl (StepTo.store1 10 rfl rfl rfl rfl rfl rfl rfl overQ setQ ?_) | refine WL.step rfl (StepTo.storeA 10 rfl rfl rfl rfl rfl rfl rfl rfl overQ setQ ?_) | refine WL.step rfl (StepTo.storeRow 10 rfl rfl rfl rfl rfl rfl rfl rfl (by omega) setQ ?_) | refine WL.step rfl (StepTo.store1 11 rfl rfl rfl rfl rfl rfl rfl overQ setQ ?_) | refine WL.step rfl (StepTo.storeA 11 rfl rfl rfl rfl rfl rfl rfl rfl overQ setQ ?_) | refine WL.step rfl (StepTo.storeRow 11 rfl rfl rfl rfl rfl rfl rfl rfl (by omega) setQ ?_))
    | with_reducible refine WC.block ?_
    | with_reducible refine WC.scope ?_
    | with_reducible refine WC.label ?_
    | with_reducible refine WQ.ngN ?_
    | with_reducible refine WQ.ngR ?_
    | with_reducible refine WQ.ngX ?_
    | with_reducible refine WC.skip ?_
    | with_reducible refine WC.ret ?_
    | with_reducible refine WC.exit ?_
    | with_reducible refine WQ.thenR ?_
    | with_reducible refine WQ.thenX ?_
    | with_reducible refine WQ.blkN ?_
    | with_reducible refine WQ.blkR ?_
    | ((with_reducible refine WQ.blkX ?_ ?_); focus rfl)
    | ((with_reducible refine WQ.blkY ?_ ?_); focus rfl)
    | refine WC.condT rfl ?_
    | refine WC.condF rfl ?_
    | refine WC.condTh rfl gdQ ?_
    | refine WC.condFh rfl gdQ ?_
    | (refine WC.cond rfl (fun hc => ?_) (fun hc => ?_) <;> (try first | (with_reducible replace hc := of_decide_eq_true hc) | (with_reducible replace hc := of_decide_eq_false hc) | (with_reducible replace hc := eqT hc) | (with_reducible replace hc := eqF hc) | (with_reducible replace hc := neT hc) | (with_reducible replace hc := neF hc) | (with_reducible replace hc := noT hc) | (with_reducible replace hc := noF hc)) <;> (try (exfalso; omega))))
          exact WQ.body (Reads.tmp2 rfl rfl rfl) fun w' hw' => ⟨_, [], rfl, .inr ⟨bad (by unfold okG; omega), rfl, rfl⟩, (hw'.pick (idx := []) ⟨by decide, rfl⟩).toNew (by simp)⟩
        · repeat' (first
    | with_reducible refine WL.nil ?_
    | with_reducible refine WQ.thenN ?_
    | with_reducible refine WQ.code ?_
    | with_reducible refine WC.seq ?_
    | with_reducible refine WC.region ?_
    | ((with_reducible refine WL.isN_move ?_); first | refine WL.yld rfl (Yld.pure rfl nrmQ) ?_)
    | ((with_reducible refine WL.isN_assign ?_); first | refine WL.yld rfl (Yld.pure rfl nrmQ) ?_)
    | ((with_reducible refine WL.isN_bin ?_); first | refine WL.yld rfl (Yld.pure rfl nrmQ) ?_ | refine WL.yld rfl (Yld.rem rfl rfl rfl rfl (by omega) (by omega)) ?_ | refine WL.yld rfl (Yld.quo rfl rfl rfl rfl (by omega) (by omega) nrmQ) ?_ | refine WL.yld rfl (Yld.eqlB rfl rfl rfl rfl) ?_ | refine WL.yld rfl (Yld.neqB rfl rfl rfl rfl) ?_ | refine WL.yld rfl (Yld.eqlA 4 rfl rfl rfl (by kernel_rfl) (by kernel_rfl) rfl rfl) ?_ | refine WL.yld rfl (Yld.neqA 4 rfl rfl rfl (by kernel_rfl) (by kernel_rfl) rfl rfl) ?_ | refine WL.yld rfl (Yld.quoT rfl rfl rfl rfl (by omega) nrmQ) ?_)
    | ((with_reducible refine WL.isN_load ?_); first | refine WL.yld rfl (Yld.load rfl rfl rfl rfl cellQ) ?_ | refine WL.yld rfl (Yld.loadAgg rfl rfl rfl rfl rfl aggQ) ?_)
    | ((with_reducible refine WL.isN_iaddr ?_); first | refine WL.yld rfl (Yld.indexS 0 rfl rfl rfl rfl rfl rfl (by omega)) ?_ | refine WL.yld rfl (Yld.indexS 1 rfl rfl rfl rfl rfl rfl (by omega)) ?_ | refine WL.yld rfl (Yld.indexS 2 rfl rfl rfl rfl rfl rfl (by omega)) ?_ | refine WL.yld rfl (Yld.indexS _ rfl rfl rfl rfl rfl rfl (by omega)) ?_ | refine WL.yld rfl (Yld.indexA 0 rfl rfl rfl rfl rfl rfl (by omega)) ?_ | refine WL.yld rfl (Yld.indexA 1 rfl rfl rfl rfl rfl rfl (by omega)) ?_ | refine WL.yld rfl (Yld.indexA _ rfl rfl rfl rfl rfl rfl (by omega)) ?_)
    | ((with_reducible refine WL.isN_conv ?_); first | refine WL.yld rfl (Yld.convInt rfl rfl rfl rfl nrmQ) ?_)
    | ((with_reducible refine WL.isN_pick ?_); first | refine WL.yld rfl (Yld.pickT rfl rfl rfl) ?_ | refine WL.yld rfl (Yld.pickF rfl rfl rfl) ?_ | refine WL.yld rfl (Yld.pickTh rfl rfl gdQ rfl) ?_ | refine WL.yld rfl (Yld.pickFh rfl rfl gdQ rfl) ?_ | refine WL.yld rfl (Yld.pickB rfl rfl rfl rfl) ?_)
    | ((with_reducible refine WL.isN_call ?_); first | refine WL.yld rfl (Yld.lenSlice rfl rfl rfl) ?_ | refine WL.yld rfl (Yld.lenStr rfl rfl rfl) ?_)
    | ((with_reducible refine WL.isT ?_); first | refine WL.skipT rfl rfl rfl rfl gdQ ?_ | refine WL.skipU rfl rfl rfl rfl ?_ | refine WL.runT rfl rfl rfl gdQ ?_ | (refine WL.cases rfl rfl rfl (fun hg => ?_) (fun hg => ?_) <;> (try first | (with_reducible replace hg := of_decide_eq_true hg) | (with_reducible replace hg := of_decide_eq_false hg) | (with_reducible replace hg := eqT hg) | (with_reducible replace hg := eqF hg) | (with_reducible replace hg := neT hg) | (with_reducible replace hg := neF hg) | (with_reducible replace hg := noT hg) | (with_reducible replace hg := noF hg)) <;> (try (exfalso; omega))))
    | ((with_reducible refine WL.isF ?_); first | refine WL.skipF rfl rfl rfl rfl gdQ ?_ | refine WL.skipU rfl rfl rfl rfl ?_ | refine WL.runF rfl rfl rfl gdQ ?_ | (refine WL.cases rfl rfl rfl (fun hg => ?_) (fun hg => ?_) <;> (try first | (with_reducible replace hg := of_decide_eq_true hg) | (with_reducible replace hg := of_decide_eq_false hg) | (with_reducible replace hg := eqT hg) | (with_reducible replace hg := eqF hg) | (with_reducible replace hg := neT hg) | (with_reducible replace hg := neF hg) | (with_reducible replace hg := noT hg) | (with_reducible replace hg := noF hg)) <;> (try (exfalso; omega))))
    | ((with_reducible refine WL.isN_alloc ?_); first | refine WL.step rfl (StepTo.allocA rfl rfl rfl rfl (fun _ => ?_)) | refine WL.step rfl (StepTo.alloc1 rfl rfl rfl rfl rfl (fun _ => ?_)))
    | ((with_reducible refine WL.isN_store ?_); first | refine WL.step rfl (StepTo.store1 0 rfl rfl rfl rfl rfl rfl rfl overQ setQ ?_) | refine WL.step rfl (StepTo.storeA 0 rfl rfl rfl rfl rfl rfl rfl rfl overQ setQ ?_) | refine WL.step rfl (StepTo.storeRow 0 rfl rfl rfl rfl rfl rfl rfl rfl (by omega) setQ ?_) | refine WL.step rfl (StepTo.store1 1 rfl rfl rfl rfl rfl rfl rfl overQ setQ ?_) | refine WL.step rfl (StepTo.storeA 1 rfl rfl rfl rfl rfl rfl rfl rfl overQ setQ ?_) | refine WL.step rfl (StepTo.storeRow 1 rfl rfl rfl rfl rfl rfl rfl rfl (by omega) setQ ?_) | refine WL.step rfl (StepTo.store1 2 rfl rfl rfl rfl rfl rfl rfl overQ setQ ?_) | refine WL.step rfl (StepTo.storeA 2 rfl rfl rfl rfl rfl rfl rfl rfl overQ setQ ?_) | refine WL.step rfl (StepTo.storeRow 2 rfl rfl rfl rfl rfl rfl rfl rfl (by omega) setQ ?_) | refine WL.step rfl (StepTo.store1 3 rfl rfl rfl rfl rfl rfl rfl overQ setQ ?_) | refine WL.step rfl (StepTo.storeA 3 rfl rfl rfl rfl rfl rfl rfl rfl overQ setQ ?_) | refine WL.step rfl (StepTo.storeRow 3 rfl rfl rfl rfl rfl rfl rfl rfl (by omega) setQ ?_) | refine WL.step rfl (StepTo.store1 4 rfl rfl rfl rfl rfl rfl rfl overQ setQ ?_) | refine WL.step rfl (StepTo.storeA 4 rfl rfl rfl rfl rfl rfl rfl rfl overQ setQ ?_) | refine WL.step rfl (StepTo.storeRow 4 rfl rfl rfl rfl rfl rfl rfl rfl (by omega) setQ ?_) | refine WL.step rfl (StepTo.store1 5 rfl rfl rfl rfl rfl rfl rfl overQ setQ ?_) | refine WL.step rfl (StepTo.storeA 5 rfl rfl rfl rfl rfl rfl rfl rfl overQ setQ ?_) | refine WL.step rfl (StepTo.storeRow 5 rfl rfl rfl rfl rfl rfl rfl rfl (by omega) setQ ?_) | refine WL.step rfl (StepTo.store1 6 rfl rfl rfl rfl rfl rfl rfl overQ setQ ?_) | refine WL.step rfl (StepTo.storeA 6 rfl rfl rfl rfl rfl rfl rfl rfl overQ setQ ?_) | refine WL.step rfl (StepTo.storeRow 6 rfl rfl rfl rfl rfl rfl rfl rfl (by omega) setQ ?_) | refine WL.step rfl (StepTo.store1 7 rfl rfl rfl rfl rfl rfl rfl overQ setQ ?_) | refine WL.step rfl (StepTo.storeA 7 rfl rfl rfl rfl rfl rfl rfl rfl overQ setQ ?_) | refine WL.step rfl (StepTo.storeRow 7 rfl rfl rfl rfl rfl rfl rfl rfl (by omega) setQ ?_) | refine WL.step rfl (StepTo.store1 8 rfl rfl rfl rfl rfl rfl rfl overQ setQ ?_) | refine WL.step rfl (StepTo.storeA 8 rfl rfl rfl rfl rfl rfl rfl rfl overQ setQ ?_) | refine WL.step rfl (StepTo.storeRow 8 rfl rfl rfl rfl rfl rfl rfl rfl (by omega) setQ ?_) | refine WL.step rfl (StepTo.store1 9 rfl rfl rfl rfl rfl rfl rfl overQ setQ ?_) | refine WL.step rfl (StepTo.storeA 9 rfl rfl rfl rfl rfl rfl rfl rfl overQ setQ ?_) | refine WL.step rfl (StepTo.storeRow 9 rfl rfl rfl rfl rfl rfl rfl rfl (by omega) setQ ?_) | refine WL.step rfl (StepTo.store1 10 rfl rfl rfl rfl rfl rfl rfl overQ setQ ?_) | refine WL.step rfl (StepTo.storeA 10 rfl rfl rfl rfl rfl rfl rfl rfl overQ setQ ?_) | refine WL.step rfl (StepTo.storeRow 10 rfl rfl rfl rfl rfl rfl rfl rfl (by omega) setQ ?_) | refine WL.step rfl (StepTo.store1 11 rfl rfl rfl rfl rfl rfl rfl overQ setQ ?_) | refine WL.step rfl (StepTo.storeA 11 rfl rfl rfl rfl rfl rfl rfl rfl overQ setQ ?_) | refine WL.step rfl (StepTo.storeRow 11 rfl rfl rfl rfl rfl rfl rfl rfl (by omega) setQ ?_))
    | with_reducible refine WC.block ?_
    | with_reducible refine WC.scope ?_
    | with_reducible refine WC.label ?_
    | with_reducible refine WQ.ngN ?_
    | with_reducible refine WQ.ngR ?_
    | with_reducible refine WQ.ngX ?_
    | with_reducible refine WC.skip ?_
    | with_reducible refine WC.ret ?_
    | with_reducible refine WC.exit ?_
    | with_reducible refine WQ.thenR ?_
    | with_reducible refine WQ.thenX ?_
    | with_reducible refine WQ.blkN ?_
    | with_reducible refine WQ.blkR ?_
    | ((with_reducible refine WQ.blkX ?_ ?_); focus rfl)
    | ((with_reducible refine WQ.blkY ?_ ?_); focus rfl)
    | refine WC.condT rfl ?_
    | refine WC.condF rfl ?_
    | refine WC.condTh rfl gdQ ?_
    | refine WC.condFh rfl gdQ ?_
    | (refine WC.cond rfl (fun hc => ?_) (fun hc => ?_) <;> (try first | (with_reducible replace hc := of_decide_eq_true hc) | (with_reducible replace hc := of_decide_eq_false hc) | (with_reducible replace hc := eqT hc) | (with_reducible replace hc := eqF hc) | (with_reducible replace hc := neT hc) | (with_reducible replace hc := neF hc) | (with_reducible replace hc := noT hc) | (with_reducible replace hc := noF hc)) <;> (try (exfalso; omega))))
          rename_i bg
          refine WC.loop (fun mm τ H => ∃ x : Nat, g.1 ≤ x ∧ x ≤ g.2 + 1 ∧ mm = g.2 + 1 - x ∧
              τ = [(1, .int .i64 many), (6, .slice (some ⟨bl, 0, none⟩) many many), (8, .pointer (some ⟨bg, 0, none⟩)), (9, .int .i64 x), (12, .slice (some ⟨b, off, none⟩) n c), (13, .int .i64 n), (14, .int .i64 j)] ∧
              H = [.box bg 55 (gC g), .row (some ⟨bl, 0, none⟩) many many 4 1 (bC ((List.range many).map fun y => inB (gs.take j) y || (decide (g.1 ≤ y + 1) && decide (y + 1 < x)))), .vw (some ⟨b, off, none⟩) n 2 (flat gC gs)])
            (g.2 + 1 - g.1) _ _ [0, 1, 2] ?_ ?_ ⟨g.1, by omega, by omega, rfl, rfl, rfl⟩ ?_
          · exact (by repeat (first | exact Sub.nil | refine Sub.cons rfl ?_ | refine Sub.consE rfl (int_eq (by omega)) ?_))
          · have : (List.range many).map (fun y => inB (gs.take j) y || (decide (g.1 ≤ y + 1) && decide (y + 1 < g.1))) = (List.range many).map (inB (gs.take j)) := by
              congr 1
              funext y
              by_cases hy : g.1 ≤ y + 1
              · simp [show ¬ (y + 1 < g.1) from by omega]
              · simp [hy]
            rw [this]
            exact ⟨by decide, rfl⟩
          rintro mm τ H ⟨x, hx1, hx2, rfl, rfl, rfl⟩
          by_cases hx : x ≤ g.2
          · have hrl : (bC ((List.range many).map fun y => inB (gs.take j) y || (decide (g.1 ≤ y + 1) && decide (y + 1 < x)))).length = many := by simp [bC]
            have hset := row_set many (0 + (x - 1) * 1) (fun y => inB (gs.take j) y || (decide (g.1 ≤ y + 1) && decide (y + 1 < x))) (fun y => inB (gs.take j) y || (decide (g.1 ≤ y + 1) && decide (y + 1 < x + 1))) (fun y hy => by
              split
              · rename_i e
                simp [show g.1 ≤ y + 1 from by omega, show y < x from by omega]
              · rename_i e
                simp only [show (y + 1 < x + 1) = (y + 1 < x) from by simp only [eq_iff_iff]; omega])
            repeat' (first
    | with_reducible refine WL.nil ?_
    | with_reducible refine WQ.thenN ?_
    | with_reducible refine WQ.code ?_
    | with_reducible refine WC.seq ?_
    | with_reducible refine WC.region ?_
    | ((with_reducible refine WL.isN_move ?_); first | refine WL.yld rfl (Yld.pure rfl nrmQ) ?_)
    | ((with_reducible refine WL.isN_assign ?_); first | refine WL.yld rfl (Yld.pure rfl nrmQ) ?_)
    | ((with_reducible refine WL.isN_bin ?_); first | refine WL.yld rfl (Yld.pure rfl nrmQ) ?_ | refine WL.yld rfl (Yld.rem rfl rfl rfl rfl (by omega) (by omega)) ?_ | refine WL.yld rfl (Yld.quo rfl rfl rfl rfl (by omega) (by omega) nrmQ) ?_ | refine WL.yld rfl (Yld.eqlB rfl rfl rfl rfl) ?_ | refine WL.yld rfl (Yld.neqB rfl rfl rfl rfl) ?_ | refine WL.yld rfl (Yld.eqlA 4 rfl rfl rfl (by kernel_rfl) (by kernel_rfl) rfl rfl) ?_ | refine WL.yld rfl (Yld.neqA 4 rfl rfl rfl (by kernel_rfl) (by kernel_rfl) rfl rfl) ?_ | refine WL.yld rfl (Yld.quoT rfl rfl rfl rfl (by omega) nrmQ) ?_)
    | ((with_reducible refine WL.isN_load ?_); first | refine WL.yld rfl (Yld.load rfl rfl rfl rfl cellQ) ?_ | refine WL.yld rfl (Yld.loadAgg rfl rfl rfl rfl rfl aggQ) ?_)
    | ((with_reducible refine WL.isN_iaddr ?_); first | refine WL.yld rfl (Yld.indexS (x - 1) rfl rfl rfl rfl rfl (by omega) (by omega)) ?_ | refine WL.yld rfl (Yld.indexS 0 rfl rfl rfl rfl rfl rfl (by omega)) ?_ | refine WL.yld rfl (Yld.indexS 1 rfl rfl rfl rfl rfl rfl (by omega)) ?_ | refine WL.yld rfl (Yld.indexS 2 rfl rfl rfl rfl rfl rfl (by omega)) ?_ | refine WL.yld rfl (Yld.indexS _ rfl rfl rfl rfl rfl rfl (by omega)) ?_ | refine WL.yld rfl (Yld.indexA 0 rfl rfl rfl rfl rfl rfl (by omega)) ?_ | refine WL.yld rfl (Yld.indexA 1 rfl rfl rfl rfl rfl rfl (by omega)) ?_ | refine WL.yld rfl (Yld.indexA _ rfl rfl rfl rfl rfl rfl (by omega)) ?_)
    | ((with_reducible refine WL.isN_conv ?_); first | refine WL.yld rfl (Yld.convInt rfl rfl rfl rfl nrmQ) ?_)
    | ((with_reducible refine WL.isN_pick ?_); first | refine WL.yld rfl (Yld.pickT rfl rfl rfl) ?_ | refine WL.yld rfl (Yld.pickF rfl rfl rfl) ?_ | refine WL.yld rfl (Yld.pickTh rfl rfl gdQ rfl) ?_ | refine WL.yld rfl (Yld.pickFh rfl rfl gdQ rfl) ?_ | refine WL.yld rfl (Yld.pickB rfl rfl rfl rfl) ?_)
    | ((with_reducible refine WL.isN_call ?_); first | refine WL.yld rfl (Yld.lenSlice rfl rfl rfl) ?_ | refine WL.yld rfl (Yld.lenStr rfl rfl rfl) ?_)
    | ((with_reducible refine WL.isT ?_); first | refine WL.skipT rfl rfl rfl rfl gdQ ?_ | refine WL.skipU rfl rfl rfl rfl ?_ | refine WL.runT rfl rfl rfl gdQ ?_ | (refine WL.cases rfl rfl rfl (fun hg => ?_) (fun hg => ?_) <;> (try first | (with_reducible replace hg := of_decide_eq_true hg) | (with_reducible replace hg := of_decide_eq_false hg) | (with_reducible replace hg := eqT hg) | (with_reducible replace hg := eqF hg) | (with_reducible replace hg := neT hg) | (with_reducible replace hg := neF hg) | (with_reducible replace hg := noT hg) | (with_reducible replace hg := noF hg)) <;> (try (exfalso; omega))))
    | ((with_reducible refine WL.isF ?_); first | refine WL.skipF rfl rfl rfl rfl gdQ ?_ | refine WL.skipU rfl rfl rfl rfl ?_ | refine WL.runF rfl rfl rfl gdQ ?_ | (refine WL.cases rfl rfl rfl (fun hg => ?_) (fun hg => ?_) <;> (try first | (with_reducible replace hg := of_decide_eq_true hg) | (with_reducible replace hg := of_decide_eq_false hg) | (with_reducible replace hg := eqT hg) | (with_reducible replace hg := eqF hg) | (with_reducible replace hg := neT hg) | (with_reducible replace hg := neF hg) | (with_reducible replace hg := noT hg) | (with_reducible replace hg := noF hg)) <;> (try (exfalso; omega))))
    | ((with_reducible refine WL.isN_alloc ?_); first | refine WL.step rfl (StepTo.allocA rfl rfl rfl rfl (fun _ => ?_)) | refine WL.step rfl (StepTo.alloc1 rfl rfl rfl rfl rfl (fun _ => ?_)))
    | ((with_reducible refine WL.isN_store ?_); first | refine WL.step rfl (StepTo.store1 0 rfl rfl rfl rfl rfl rfl rfl overQ setQ ?_) | refine WL.step rfl (StepTo.storeA 0 rfl rfl rfl rfl rfl rfl rfl rfl overQ setQ ?_) | refine WL.step rfl (StepTo.storeRow 0 rfl rfl rfl rfl rfl rfl rfl rfl (by omega) setQ ?_) | refine WL.step rfl (StepTo.store1 1 rfl rfl rfl rfl rfl rfl rfl overQ setQ ?_) | refine WL.step rfl (StepTo.storeA 1 rfl rfl rfl rfl rfl rfl rfl rfl overQ setQ ?_) | refine WL.step rfl (StepTo.storeRow 1 rfl rfl rfl rfl rfl rfl rfl rfl (by omega) setQ ?_) | refine WL.step rfl (StepTo.store1 2 rfl rfl rfl rfl rfl rfl rfl overQ setQ ?_) | refine WL.step rfl (StepTo.storeA 2 rfl rfl rfl rfl rfl rfl rfl rfl overQ setQ ?_) | refine WL.step rfl (StepTo.storeRow 2 rfl rfl rfl rfl rfl rfl rfl rfl (by omega) setQ ?_) | refine WL.step rfl (StepTo.store1 3 rfl rfl rfl rfl rfl rfl rfl overQ setQ ?_) | refine WL.step rfl (StepTo.storeA 3 rfl rfl rfl rfl rfl rfl rfl rfl overQ setQ ?_) | refine WL.step rfl (StepTo.storeRow 3 rfl rfl rfl rfl rfl rfl rfl rfl (by omega) setQ ?_) | refine WL.step rfl (StepTo.store1 4 rfl rfl rfl rfl rfl rfl rfl overQ setQ ?_) | refine WL.step rfl (StepTo.storeA 4 rfl rfl rfl rfl rfl rfl rfl rfl overQ setQ ?_) | refine WL.step rfl (StepTo.storeRow 4 rfl rfl rfl rfl rfl rfl rfl rfl (by omega) setQ ?_) | refine WL.step rfl (StepTo.store1 5 rfl rfl rfl rfl rfl rfl rfl overQ setQ ?_) | refine WL.step rfl (StepTo.storeA 5 rfl rfl rfl rfl rfl rfl rfl rfl overQ setQ ?_) | refine WL.step rfl (StepTo.storeRow 5 rfl rfl rfl rfl rfl rfl rfl rfl (by omega) setQ ?_) | refine WL.step rfl (StepTo.store1 6 rfl rfl rfl rfl rfl rfl rfl overQ setQ ?_) | refine WL.step rfl (StepTo.storeA 6 rfl rfl rfl rfl rfl rfl rfl rfl overQ setQ ?_) | refine WL.step rfl (StepTo.storeRow 6 rfl rfl rfl rfl rfl rfl rfl rfl (by omega) setQ ?_) | refine WL.step rfl (StepTo.store1 7 rfl rfl rfl rfl rfl rfl rfl overQ setQ ?_) | refine WL.step rfl (StepTo.storeA 7 rfl rfl rfl rfl rfl rfl rfl rfl overQ setQ ?_) | refine WL.step rfl (StepTo.storeRow 7 rfl rfl rfl rfl rfl rfl rfl rfl (by omega) setQ ?_) | refine WL.step rfl (StepTo.store1 8 rfl rfl rfl rfl rfl rfl rfl overQ setQ ?_) | refine WL.step rfl (StepTo.storeA 8 rfl rfl rfl rfl rfl rfl rfl rfl overQ setQ ?_) | refine WL.step rfl (StepTo.storeRow 8 rfl rfl rfl rfl rfl rfl rfl rfl (by omega) setQ ?_) | refine WL.step rfl (StepTo.store1 9 rfl rfl rfl rfl rfl rfl rfl overQ setQ ?_) | refine WL.step rfl (StepTo.storeA 9 rfl rfl rfl rfl rfl rfl rfl rfl overQ setQ ?_) | refine WL.step rfl (StepTo.storeRow 9 rfl rfl rfl rfl rfl rfl rfl rfl (by omega) setQ ?_) | refine WL.step rfl (StepTo.store1 10 rfl rfl rfl rfl rfl rfl rfl overQ setQ ?_) | refine WL.step rfl (StepTo.storeA 10 rfl rfl rfl rfl rfl rfl rfl rfl overQ setQ ?_) | refine WL.step rfl (StepTo.storeRow 10 rfl rfl rfl rfl rfl rfl rfl rfl (by omega) setQ ?_) | refine WL.step rfl (StepTo.store1 11 rfl rfl rfl rfl rfl rfl rfl overQ setQ ?_) | refine WL.step rfl (StepTo.storeA 11 rfl rfl rfl rfl rfl rfl rfl rfl overQ setQ ?_) | refine WL.step rfl (StepTo.storeRow 11 rfl rfl rfl rfl rfl rfl rfl rfl (by omega) setQ ?_))
    | with_reducible refine WC.block ?_
    | with_reducible refine WC.scope ?_
    | with_reducible refine WC.label ?_
    | with_reducible refine WQ.ngN ?_
    | with_reducible refine WQ.ngR ?_
    | with_reducible refine WQ.ngX ?_
    | with_reducible refine WC.skip ?_
    | with_reducible refine WC.ret ?_
    | with_reducible refine WC.exit ?_
    | with_reducible refine WQ.thenR ?_
    | with_reducible refine WQ.thenX ?_
    | with_reducible refine WQ.blkN ?_
    | with_reducible refine WQ.blkR ?_
    | ((with_reducible refine WQ.blkX ?_ ?_); focus rfl)
    | ((with_reducible refine WQ.blkY ?_ ?_); focus rfl)
    | refine WC.condT rfl ?_
    | refine WC.condF rfl ?_
    | refine WC.condTh rfl gdQ ?_
    | refine WC.condFh rfl gdQ ?_
    | (refine WC.cond rfl (fun hc => ?_) (fun hc => ?_) <;> (try first | (with_reducible replace hc := of_decide_eq_true hc) | (with_reducible replace hc := of_decide_eq_false hc) | (with_reducible replace hc := eqT hc) | (with_reducible replace hc := eqF hc) | (with_reducible replace hc := neT hc) | (with_reducible replace hc := neF hc) | (with_reducible replace hc := noT hc) | (with_reducible replace hc := noF hc)) <;> (try (exfalso; omega))))
            rw [hset]
            exact WQ.rnd (g.2 + 1 - (x + 1)) _ _ [0, 1, 2] (by repeat (first | exact Sub.nil | refine Sub.cons rfl ?_ | refine Sub.consE rfl (int_eq (by omega)) ?_)) ⟨by decide, rfl⟩ (by omega) ⟨x + 1, by omega, by omega, rfl, rfl, rfl⟩
          · obtain rfl : x = g.2 + 1 := by omega
            have ef : (fun y => inB (gs.take j) y || (decide (g.1 ≤ y + 1) && decide (y + 1 < g.2 + 1))) = inB (gs.take (j + 1)) := by
              funext y
              rw [take_succ hgj]
              simp only [inB, List.any_append, List.any_cons, List.any_nil, Bool.or_false]
              congr 2
              exact decide_eq_decide.2 (by omega)
            rw [ef]
            repeat' (first
    | with_reducible refine WL.nil ?_
    | with_reducible refine WQ.thenN ?_
    | with_reducible refine WQ.code ?_
    | with_reducible refine WC.seq ?_
    | with_reducible refine WC.region ?_
    | ((with_reducible refine WL.isN_move ?_); first | refine WL.yld rfl (Yld.pure rfl nrmQ) ?_)
    | ((with_reducible refine WL.isN_assign ?_); first | refine WL.yld rfl (Yld.pure rfl nrmQ) ?_)
    | ((with_reducible refine WL.isN_bin ?_); first | refine WL.yld rfl (Yld.pure rfl nrmQ) ?_ | refine WL.yld rfl (Yld.rem rfl rfl rfl rfl (by omega) (by omega)) ?_ | refine WL.yld rfl (Yld.quo rfl rfl rfl rfl (by omega) (by omega) nrmQ) ?_ | refine WL.yld rfl (Yld.eqlB rfl rfl rfl rfl) ?_ | refine WL.yld rfl (Yld.neqB rfl rfl rfl rfl) ?_ | refine WL.yld rfl (Yld.eqlA 4 rfl rfl rfl (by kernel_rfl) (by kernel_rfl) rfl rfl) ?_ | refine WL.yld rfl (Yld.neqA 4 rfl rfl rfl (by kernel_rfl) (by kernel_rfl) rfl rfl) ?_ | refine WL.yld rfl (Yld.quoT rfl rfl rfl rfl (by omega) nrmQ) ?_)
    | ((with_reducible refine WL.isN_load ?_); first | refine WL.yld rfl (Yld.load rfl rfl rfl rfl cellQ) ?_ | refine WL.yld rfl (Yld.loadAgg rfl rfl rfl rfl rfl aggQ) ?_)
    | ((with_reducible refine WL.isN_iaddr ?_); first | refine WL.yld rfl (Yld.indexS 0 rfl rfl rfl rfl rfl rfl (by omega)) ?_ | refine WL.yld rfl (Yld.indexS 1 rfl rfl rfl rfl rfl rfl (by omega)) ?_ | refine WL.yld rfl (Yld.indexS 2 rfl rfl rfl rfl rfl rfl (by omega)) ?_ | refine WL.yld rfl (Yld.indexS _ rfl rfl rfl rfl rfl rfl (by omega)) ?_ | refine WL.yld rfl (Yld.indexA 0 rfl rfl rfl rfl rfl rfl (by omega)) ?_ | refine WL.yld rfl (Yld.indexA 1 rfl rfl rfl rfl rfl rfl (by omega)) ?_ | refine WL.yld rfl (Yld.indexA _ rfl rfl rfl rfl rfl rfl (by omega)) ?_)
    | ((with_reducible refine WL.isN_conv ?_); first | refine WL.yld rfl (Yld.convInt rfl rfl rfl rfl nrmQ) ?_)
    | ((with_reducible refine WL.isN_pick ?_); first | refine WL.yld rfl (Yld.pickT rfl rfl rfl) ?_ | refine WL.yld rfl (Yld.pickF rfl rfl rfl) ?_ | refine WL.yld rfl (Yld.pickTh rfl rfl gdQ rfl) ?_ | refine WL.yld rfl (Yld.pickFh rfl rfl gdQ rfl) ?_ | refine WL.yld rfl (Yld.pickB rfl rfl rfl rfl) ?_)
    | ((with_reducible refine WL.isN_call ?_); first | refine WL.yld rfl (Yld.lenSlice rfl rfl rfl) ?_ | refine WL.yld rfl (Yld.lenStr rfl rfl rfl) ?_)
    | ((with_reducible refine WL.isT ?_); first | refine WL.skipT rfl rfl rfl rfl gdQ ?_ | refine WL.skipU rfl rfl rfl rfl ?_ | refine WL.runT rfl rfl rfl gdQ ?_ | (refine WL.cases rfl rfl rfl (fun hg => ?_) (fun hg => ?_) <;> (try first | (with_reducible replace hg := of_decide_eq_true hg) | (with_reducible replace hg := of_decide_eq_false hg) | (with_reducible replace hg := eqT hg) | (with_reducible replace hg := eqF hg) | (with_reducible replace hg := neT hg) | (with_reducible replace hg := neF hg) | (with_reducible replace hg := noT hg) | (with_reducible replace hg := noF hg)) <;> (try (exfalso; omega))))
    | ((with_reducible refine WL.isF ?_); first | refine WL.skipF rfl rfl rfl rfl gdQ ?_ | refine WL.skipU rfl rfl rfl rfl ?_ | refine WL.runF rfl rfl rfl gdQ ?_ | (refine WL.cases rfl rfl rfl (fun hg => ?_) (fun hg => ?_) <;> (try first | (with_reducible replace hg := of_decide_eq_true hg) | (with_reducible replace hg := of_decide_eq_false hg) | (with_reducible replace hg := eqT hg) | (with_reducible replace hg := eqF hg) | (with_reducible replace hg := neT hg) | (with_reducible replace hg := neF hg) | (with_reducible replace hg := noT hg) | (with_reducible replace hg := noF hg)) <;> (try (exfalso; omega))))
    | ((with_reducible refine WL.isN_alloc ?_); first | refine WL.step rfl (StepTo.allocA rfl rfl rfl rfl (fun _ => ?_)) | refine WL.step rfl (StepTo.alloc1 rfl rfl rfl rfl rfl (fun _ => ?_)))
    | ((with_reducible refine WL.isN_store ?_); first | refine WL.step rfl (StepTo.store1 0 rfl rfl rfl rfl rfl rfl rfl overQ setQ ?_) | refine WL.step rfl (StepTo.storeA 0 rfl rfl rfl rfl rfl rfl rfl rfl overQ setQ ?_) | refine WL.step rfl (StepTo.storeRow 0 rfl rfl rfl rfl rfl rfl rfl rfl (by omega) setQ ?_) | refine WL.step rfl (StepTo.store1 1 rfl rfl rfl rfl rfl rfl rfl overQ setQ ?_) | refine WL.step rfl (StepTo.storeA 1 rfl rfl rfl rfl rfl rfl rfl rfl overQ setQ ?_) | refine WL.step rfl (StepTo.storeRow 1 rfl rfl rfl rfl rfl rfl rfl rfl (by omega) setQ ?_) | refine WL.step rfl (StepTo.store1 2 rfl rfl rfl rfl rfl rfl rfl overQ setQ ?_) | refine WL.step rfl (StepTo.storeA 2 rfl rfl rfl rfl rfl rfl rfl rfl overQ setQ ?_) | refine WL.step rfl (StepTo.storeRow 2 rfl rfl rfl rfl rfl rfl rfl rfl (by omega) setQ ?_) | refine WL.step rfl (StepTo.store1 3 rfl rfl rfl rfl rfl rfl rfl overQ setQ ?_) | refine WL.step rfl (StepTo.storeA 3 rfl rfl rfl rfl rfl rfl rfl rfl overQ setQ ?_) | refine WL.step rfl (StepTo.storeRow 3 rfl rfl rfl rfl rfl rfl rfl rfl (by omega) setQ ?_) | refine WL.step rfl (StepTo.store1 4 rfl rfl rfl rfl rfl rfl rfl overQ setQ ?_) | refine WL.step rfl (StepTo.storeA 4 rfl rfl rfl rfl rfl rfl rfl rfl overQ setQ ?_) | refine WL.step rfl (StepTo.storeRow 4 rfl rfl rfl rfl rfl rfl rfl rfl (by omega) setQ ?_) | refine WL.step rfl (StepTo.store1 5 rfl rfl rfl rfl rfl rfl rfl overQ setQ ?_) | refine WL.step rfl (StepTo.storeA 5 rfl rfl rfl rfl rfl rfl rfl rfl overQ setQ ?_) | refine WL.step rfl (StepTo.storeRow 5 rfl rfl rfl rfl rfl rfl rfl rfl (by omega) setQ ?_) | refine WL.step rfl (StepTo.store1 6 rfl rfl rfl rfl rfl rfl rfl overQ setQ ?_) | refine WL.step rfl (StepTo.storeA 6 rfl rfl rfl rfl rfl rfl rfl rfl overQ setQ ?_) | refine WL.step rfl (StepTo.storeRow 6 rfl rfl rfl rfl rfl rfl rfl rfl (by omega) setQ ?_) | refine WL.step rfl (StepTo.store1 7 rfl rfl rfl rfl rfl rfl rfl overQ setQ ?_) | refine WL.step rfl (StepTo.storeA 7 rfl rfl rfl rfl rfl rfl rfl rfl overQ setQ ?_) | refine WL.step rfl (StepTo.storeRow 7 rfl rfl rfl rfl rfl rfl rfl rfl (by omega) setQ ?_) | refine WL.step rfl (StepTo.store1 8 rfl rfl rfl rfl rfl rfl rfl overQ setQ ?_) | refine WL.step rfl (StepTo.storeA 8 rfl rfl rfl rfl rfl rfl rfl rfl overQ setQ ?_) | refine WL.step rfl (StepTo.storeRow 8 rfl rfl rfl rfl rfl rfl rfl rfl (by omega) setQ ?_) | refine WL.step rfl (StepTo.store1 9 rfl rfl rfl rfl rfl rfl rfl overQ setQ ?_) | refine WL.step rfl (StepTo.storeA 9 rfl rfl rfl rfl rfl rfl rfl rfl overQ setQ ?_) | refine WL.step rfl (StepTo.storeRow 9 rfl rfl rfl rfl rfl rfl rfl rfl (by omega) setQ ?_) | refine WL.step rfl (StepTo.store1 10 rfl rfl rfl rfl rfl rfl rfl overQ setQ ?_) | refine WL.step rfl (StepTo.storeA 10 rfl rfl rfl rfl rfl rfl rfl rfl overQ setQ ?_) | refine WL.step rfl (StepTo.storeRow 10 rfl rfl rfl rfl rfl rfl rfl rfl (by omega) setQ ?_) | refine WL.step rfl (StepTo.store1 11 rfl rfl rfl rfl rfl rfl rfl overQ setQ ?_) | refine WL.step rfl (StepTo.storeA 11 rfl rfl rfl rfl rfl rfl rfl rfl overQ setQ ?_) | refine WL.step rfl (StepTo.storeRow 11 rfl rfl rfl rfl rfl rfl rfl rfl (by omega) setQ ?_))
    | with_reducible refine WC.block ?_
    | with_reducible refine WC.scope ?_
    | with_reducible refine WC.label ?_
    | with_reducible refine WQ.ngN ?_
    | with_reducible refine WQ.ngR ?_
    | with_reducible refine WQ.ngX ?_
    | with_reducible refine WC.skip ?_
    | with_reducible refine WC.ret ?_
    | with_reducible refine WC.exit ?_
    | with_reducible refine WQ.thenR ?_
    | with_reducible refine WQ.thenX ?_
    | with_reducible refine WQ.blkN ?_
    | with_reducible refine WQ.blkR ?_
    | ((with_reducible refine WQ.blkX ?_ ?_); focus rfl)
    | ((with_reducible refine WQ.blkY ?_ ?_); focus rfl)
    | refine WC.condT rfl ?_
    | refine WC.condF rfl ?_
    | refine WC.condTh rfl gdQ ?_
    | refine WC.condFh rfl gdQ ?_
    | (refine WC.cond rfl (fun hc => ?_) (fun hc => ?_) <;> (try first | (with_reducible replace hc := of_decide_eq_true hc) | (with_reducible replace hc := of_decide_eq_false hc) | (with_reducible replace hc := eqT hc) | (with_reducible replace hc := eqF hc) | (with_reducible replace hc := neT hc) | (with_reducible replace hc := neF hc) | (with_reducible replace hc := noT hc) | (with_reducible replace hc := noF hc)) <;> (try (exfalso; omega))))
            exact WQ.rnd (n - (j + 1)) _ _ [1, 2] (by repeat (first | exact Sub.nil | refine Sub.cons rfl ?_ | refine Sub.consE rfl (int_eq (by omega)) ?_)) ⟨by decide, rfl⟩ (by omega) ⟨j + 1, by omega, rfl, by
              intro q hq
              rw [take_succ hgj, List.mem_append] at hq
              rcases hq with hq | hq
              · exact hok q hq
              · simp only [List.mem_singleton] at hq
                subst hq
                exact ⟨by omega, by omega, by omega⟩, rfl, rfl⟩
  · have e : gs.take j = gs := List.take_of_length_le (by omega)
    rw [e] at hok
    rw [e]
    repeat' (first
    | with_reducible refine WL.nil ?_
    | with_reducible refine WQ.thenN ?_
    | with_reducible refine WQ.code ?_
    | with_reducible refine WC.seq ?_
    | with_reducible refine WC.region ?_
    | ((with_reducible refine WL.isN_move ?_); first | refine WL.yld rfl (Yld.pure rfl nrmQ) ?_)
    | ((with_reducible refine WL.isN_assign ?_); first | refine WL.yld rfl (Yld.pure rfl nrmQ) ?_)
    | ((with_reducible refine WL.isN_bin ?_); first | refine WL.yld rfl (Yld.pure rfl nrmQ) ?_ | refine WL.yld rfl (Yld.rem rfl rfl rfl rfl (by omega) (by omega)) ?_ | refine WL.yld rfl (Yld.quo rfl rfl rfl rfl (by omega) (by omega) nrmQ) ?_ | refine WL.yld rfl (Yld.eqlB rfl rfl rfl rfl) ?_ | refine WL.yld rfl (Yld.neqB rfl rfl rfl rfl) ?_ | refine WL.yld rfl (Yld.eqlA 4 rfl rfl rfl (by kernel_rfl) (by kernel_rfl) rfl rfl) ?_ | refine WL.yld rfl (Yld.neqA 4 rfl rfl rfl (by kernel_rfl) (by kernel_rfl) rfl rfl) ?_ | refine WL.yld rfl (Yld.quoT rfl rfl rfl rfl (by omega) nrmQ) ?_)
    | ((with_reducible refine WL.isN_load ?_); first | refine WL.yld rfl (Yld.load rfl rfl rfl rfl cellQ) ?_ | refine WL.yld rfl (Yld.loadAgg rfl rfl rfl rfl rfl aggQ) ?_)
    | ((with_reducible refine WL.isN_iaddr ?_); first | refine WL.yld rfl (Yld.indexS 0 rfl rfl rfl rfl rfl rfl (by omega)) ?_ | refine WL.yld rfl (Yld.indexS 1 rfl rfl rfl rfl rfl rfl (by omega)) ?_ | refine WL.yld rfl (Yld.indexS 2 rfl rfl rfl rfl rfl rfl (by omega)) ?_ | refine WL.yld rfl (Yld.indexS _ rfl rfl rfl rfl rfl rfl (by omega)) ?_ | refine WL.yld rfl (Yld.indexA 0 rfl rfl rfl rfl rfl rfl (by omega)) ?_ | refine WL.yld rfl (Yld.indexA 1 rfl rfl rfl rfl rfl rfl (by omega)) ?_ | refine WL.yld rfl (Yld.indexA _ rfl rfl rfl rfl rfl rfl (by omega)) ?_)
    | ((with_reducible refine WL.isN_conv ?_); first | refine WL.yld rfl (Yld.convInt rfl rfl rfl rfl nrmQ) ?_)
    | ((with_reducible refine WL.isN_pick ?_); first | refine WL.yld rfl (Yld.pickT rfl rfl rfl) ?_ | refine WL.yld rfl (Yld.pickF rfl rfl rfl) ?_ | refine WL.yld rfl (Yld.pickTh rfl rfl gdQ rfl) ?_ | refine WL.yld rfl (Yld.pickFh rfl rfl gdQ rfl) ?_ | refine WL.yld rfl (Yld.pickB rfl rfl rfl rfl) ?_)
    | ((with_reducible refine WL.isN_call ?_); first | refine WL.yld rfl (Yld.lenSlice rfl rfl rfl) ?_ | refine WL.yld rfl (Yld.lenStr rfl rfl rfl) ?_)
    | ((with_reducible refine WL.isT ?_); first | refine WL.skipT rfl rfl rfl rfl gdQ ?_ | refine WL.skipU rfl rfl rfl rfl ?_ | refine WL.runT rfl rfl rfl gdQ ?_ | (refine WL.cases rfl rfl rfl (fun hg => ?_) (fun hg => ?_) <;> (try first | (with_reducible replace hg := of_decide_eq_true hg) | (with_reducible replace hg := of_decide_eq_false hg) | (with_reducible replace hg := eqT hg) | (with_reducible replace hg := eqF hg) | (with_reducible replace hg := neT hg) | (with_reducible replace hg := neF hg) | (with_reducible replace hg := noT hg) | (with_reducible replace hg := noF hg)) <;> (try (exfalso; omega))))
    | ((with_reducible refine WL.isF ?_); first | refine WL.skipF rfl rfl rfl rfl gdQ ?_ | refine WL.skipU rfl rfl rfl rfl ?_ | refine WL.runF rfl rfl rfl gdQ ?_ | (refine WL.cases rfl rfl rfl (fun hg => ?_) (fun hg => ?_) <;> (try first | (with_reducible replace hg := of_decide_eq_true hg) | (with_reducible replace hg := of_decide_eq_false hg) | (with_reducible replace hg := eqT hg) | (with_reducible replace hg := eqF hg) | (with_reducible replace hg := neT hg) | (with_reducible replace hg := neF hg) | (with_reducible replace hg := noT hg) | (with_reducible replace hg := noF hg)) <;> (try (exfalso; omega))))
    | ((with_reducible refine WL.isN_alloc ?_); first | refine WL.step rfl (StepTo.allocA rfl rfl rfl rfl (fun _ => ?_)) | refine WL.step rfl (StepTo.alloc1 rfl rfl rfl rfl rfl (fun _ => ?_)))
    | ((with_reducible refine WL.isN_store ?_); first | refine WL.step rfl (StepTo.store1 0 rfl rfl rfl rfl rfl rfl rfl overQ setQ ?_) | refine WL.step rfl (StepTo.storeA 0 rfl rfl rfl rfl rfl rfl rfl rfl overQ setQ ?_) | refine WL.step rfl (StepTo.storeRow 0 rfl rfl rfl rfl rfl rfl rfl rfl (by omega) setQ ?_) | refine WL.step rfl (StepTo.store1 1 rfl rfl rfl rfl rfl rfl rfl overQ setQ ?_) | refine WL.step rfl (StepTo.storeA 1 rfl rfl rfl rfl rfl rfl rfl rfl overQ setQ ?_) | refine WL.step rfl (StepTo.storeRow 1 rfl rfl rfl rfl rfl rfl rfl rfl (by omega) setQ ?_) | refine WL.step rfl (StepTo.store1 2 rfl rfl rfl rfl rfl rfl rfl overQ setQ ?_) | refine WL.step rfl (StepTo.storeA 2 rfl rfl rfl rfl rfl rfl rfl rfl overQ setQ ?_) | refine WL.step rfl (StepTo.storeRow 2 rfl rfl rfl rfl rfl rfl rfl rfl (by omega) setQ ?_) | refine WL.step rfl (StepTo.store1 3 rfl rfl rfl rfl rfl rfl rfl overQ setQ ?_) | refine WL.step rfl (StepTo.storeA 3 rfl rfl rfl rfl rfl rfl rfl rfl overQ setQ ?_) | refine WL.step rfl (StepTo.storeRow 3 rfl rfl rfl rfl rfl rfl rfl rfl (by omega) setQ ?_) | refine WL.step rfl (StepTo.store1 4 rfl rfl rfl rfl rfl rfl rfl overQ setQ ?_) | refine WL.step rfl (StepTo.storeA 4 rfl rfl rfl rfl rfl rfl rfl rfl overQ setQ ?_) | refine WL.step rfl (StepTo.storeRow 4 rfl rfl rfl rfl rfl rfl rfl rfl (by omega) setQ ?_) | refine WL.step rfl (StepTo.store1 5 rfl rfl rfl rfl rfl rfl rfl overQ setQ ?_) | refine WL.step rfl (StepTo.storeA 5 rfl rfl rfl rfl rfl rfl rfl rfl overQ setQ ?_) | refine WL.step rfl (StepTo.storeRow 5 rfl rfl rfl rfl rfl rfl rfl rfl (by omega) setQ ?_) | refine WL.step rfl (StepTo.store1 6 rfl rfl rfl rfl rfl rfl rfl overQ setQ ?_) | refine WL.step rfl (StepTo.storeA 6 rfl rfl rfl rfl rfl rfl rfl rfl overQ setQ ?_) | refine WL.step rfl (StepTo.storeRow 6 rfl rfl rfl rfl rfl rfl rfl rfl (by omega) setQ ?_) | refine WL.step rfl (StepTo.store1 7 rfl rfl rfl rfl rfl rfl rfl overQ setQ ?_) | refine WL.step rfl (StepTo.storeA 7 rfl rfl rfl rfl rfl rfl rfl rfl overQ setQ ?_) | refine WL.step rfl (StepTo.storeRow 7 rfl rfl rfl rfl rfl rfl rfl rfl (by omega) setQ ?_) | refine WL.step rfl (StepTo.store1 8 rfl rfl rfl rfl rfl rfl rfl overQ setQ ?_) | refine WL.step rfl (StepTo.storeA 8 rfl rfl rfl rfl rfl rfl rfl rfl overQ setQ ?_) | refine WL.step rfl (StepTo.storeRow 8 rfl rfl rfl rfl rfl rfl rfl rfl (by omega) setQ ?_) | refine WL.step rfl (StepTo.store1 9 rfl rfl rfl rfl rfl rfl rfl overQ setQ ?_) | refine WL.step rfl (StepTo.storeA 9 rfl rfl rfl rfl rfl rfl rfl rfl overQ setQ ?_) | refine WL.step rfl (StepTo.storeRow 9 rfl rfl rfl rfl rfl rfl rfl rfl (by omega) setQ ?_) | refine WL.step rfl (StepTo.store1 10 rfl rfl rfl rfl rfl rfl rfl overQ setQ ?_) | refine WL.step rfl (StepTo.storeA 10 rfl rfl rfl rfl rfl rfl rfl rfl overQ setQ ?_) | refine WL.step rfl (StepTo.storeRow 10 rfl rfl rfl rfl rfl rfl rfl rfl (by omega) setQ ?_) | refine WL.step rfl (StepTo.store1 11 rfl rfl rfl rfl rfl rfl rfl overQ setQ ?_) | refine WL.step rfl (StepTo.storeA 11 rfl rfl rfl rfl rfl rfl rfl rfl overQ setQ ?_) | refine WL.step rfl (StepTo.storeRow 11 rfl rfl rfl rfl rfl rfl rfl rfl (by omega) setQ ?_))
    | with_reducible refine WC.block ?_
    | with_reducible refine WC.scope ?_
    | with_reducible refine WC.label ?_
    | with_reducible refine WQ.ngN ?_
    | with_reducible refine WQ.ngR ?_
    | with_reducible refine WQ.ngX ?_
    | with_reducible refine WC.skip ?_
    | with_reducible refine WC.ret ?_
    | with_reducible refine WC.exit ?_
    | with_reducible refine WQ.thenR ?_
    | with_reducible refine WQ.thenX ?_
    | with_reducible refine WQ.blkN ?_
    | with_reducible refine WQ.blkR ?_
    | ((with_reducible refine WQ.blkX ?_ ?_); focus rfl)
    | ((with_reducible refine WQ.blkY ?_ ?_); focus rfl)
    | refine WC.condT rfl ?_
    | refine WC.condF rfl ?_
    | refine WC.condTh rfl gdQ ?_
    | refine WC.condFh rfl gdQ ?_
    | (refine WC.cond rfl (fun hc => ?_) (fun hc => ?_) <;> (try first | (with_reducible replace hc := of_decide_eq_true hc) | (with_reducible replace hc := of_decide_eq_false hc) | (with_reducible replace hc := eqT hc) | (with_reducible replace hc := eqF hc) | (with_reducible replace hc := neT hc) | (with_reducible replace hc := neF hc) | (with_reducible replace hc := noT hc) | (with_reducible replace hc := noF hc)) <;> (try (exfalso; omega))))
    exact WQ.body (Reads.tmp2 rfl rfl rfl) fun w' hw' => ⟨_, _, rfl, .inl ⟨hok, bl, rfl, rfl⟩, (hw'.pick (idx := [0]) ⟨by decide, rfl⟩).toNew (by simp [Item.mine])⟩
end Go.Proofs.Ythpllkegmjcfaaa
