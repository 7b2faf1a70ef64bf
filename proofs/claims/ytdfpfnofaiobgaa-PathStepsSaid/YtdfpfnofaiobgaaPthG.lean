/- Paths of the program: 'Find', 'Choose', 'New'. -/
import Derived.Test.YtdfpfnofaiobgaaPthD
namespace Go.Proofs.Ytdfpfnofaiobgaa
open Go.RowKit
open Go.Proofs.Ytdfpfnofaiobgaa.Rto Go.Proofs.Ytdfpfnofaiobgaa.Win Go.Proofs.Ytdfpfnofaiobgaa.Pth
set_option linter.unusedVariables false
set_option maxRecDepth 100000

def pv (p : Pth) : Value := .agg p.cs.toArray
/-- A function of one path that tells whether. -/
def PredP (P : Program) (f : FuncId) (caps : List Value) (g : Pth → Bool) (w : World) : Prop :=
  ∀ w', Ext (fun _ => False) w w' → ∀ x : Pth, Calls P f (pv x :: caps).toArray w' fun e w'' => e = .returned (.bool (g x)) ∧ Below w'.heap.size w' w''
theorem findC_take {α : Type} {g : α → Bool} {xs : List α} {i : Nat} {m : α} (hm : xs[i]? = some m) (hall : ∀ (j : Nat) x, j < i → xs[j]? = some x → g x = false) (hp : g m = true) : xs.findIdx g = i := by
  obtain ⟨hi, rfl⟩ := List.getElem?_eq_some_iff.1 hm
  exact (List.findIdx_eq hi).2 ⟨hp, fun j hj => by
    have := hall j _ hj (List.getElem?_eq_getElem (by omega))
    simp [this]⟩
theorem all_step {α : Type} {g : α → Bool} {xs : List α} {i : Nat} {m : α} (hm : xs[i]? = some m) (hall : ∀ (j : Nat) x, j < i → xs[j]? = some x → g x = false) (hp : g m = false) : ∀ (j : Nat) x, j < i + 1 → xs[j]? = some x → g x = false := fun j x hj hx => by
  by_cases e : j = i
  · subst e
    rw [hm] at hx
    injection hx with hx
    subst hx
    exact hp
  · exact hall j x (by omega) hx
theorem find1_q (a : Nat) (s : ByteArray) (p : Pth) (w : World) (ha : w.cell? ⟨a, 0, none⟩ = some (.string s)) :
    Calls Try.prog 36 #[pv p, .pointer (some ⟨a, 0, none⟩)] w fun e w' => e = .returned (.bool (p.addr.toList == s.toList)) ∧ Below w.heap.size w w' := by
  refine enterW (fun _ => False) _ Try.func36 rfl (by simp only [Try.ntmps36, List.length_cons, List.length_nil, Nat.reduceAdd, Nat.reduceSub]; rfl) ?_
  repeat' (first
    | with_reducible refine WL.nil ?_
    | with_reducible refine WQ.thenN ?_
    | with_reducible refine WQ.code ?_
    | with_reducible refine WC.seq ?_
    | with_reducible refine WC.region ?_
    | ((with_reducible refine WL.isN_assign ?_); first | refine WL.yld rfl (Yld.pure rfl nrmQ) ?_)
    | ((with_reducible refine WL.isN_bin ?_); first | refine WL.yld rfl (Yld.pure rfl nrmQ) ?_ | refine WL.yld rfl (Yld.rem rfl rfl rfl rfl (by omega) (by omega)) ?_ | refine WL.yld rfl (Yld.quo rfl rfl rfl rfl (by omega) (by omega) nrmQ) ?_ | refine WL.yld rfl (Yld.eqlB rfl rfl rfl rfl) ?_ | refine WL.yld rfl (Yld.neqB rfl rfl rfl rfl) ?_ | refine WL.yld rfl (Yld.eqlA 4 rfl rfl rfl (by kernel_rfl) (by kernel_rfl) rfl rfl) ?_ | refine WL.yld rfl (Yld.neqA 4 rfl rfl rfl (by kernel_rfl) (by kernel_rfl) rfl rfl) ?_ | refine WL.yld rfl (Yld.quoT rfl rfl rfl rfl (by omega) nrmQ) ?_)
    | ((with_reducible refine WL.isN_load ?_); first | refine WL.yld rfl (Yld.load rfl rfl rfl rfl (CellAt.inp ha)) ?_ | refine WL.yld rfl (Yld.load rfl rfl rfl rfl cellQ) ?_ | refine WL.yld rfl (Yld.loadAgg rfl rfl rfl rfl rfl aggQ) ?_)
    | ((with_reducible refine WL.isN_faddr ?_); first | refine WL.yld rfl (Yld.fieldAddr rfl rfl rfl rfl rfl rfl rfl) ?_)
    | ((with_reducible refine WL.isN_box ?_); first | refine WL.step rfl (StepTo.boxA rfl rfl rfl rfl (fun _ => ?_)) | refine WL.step rfl (StepTo.box1 rfl rfl rfl rfl rfl (fun _ => ?_)))
    | with_reducible refine WC.block ?_
    | with_reducible refine WC.scope ?_
    | with_reducible refine WC.label ?_
    | with_reducible refine WQ.ngN ?_
    | with_reducible refine WQ.ngR ?_
    | with_reducible refine WQ.ngX ?_
    | with_reducible refine WC.skip ?_
    | with_reducible refine WC.ret ?_
    | with_reducible refine WC.exit ?_
    | with_reducible refine WQ.thenR ?_
    | with_reducible refine WQ.thenX ?_
    | with_reducible refine WQ.blkN ?_
    | with_reducible refine WQ.blkR ?_
    | ((with_reducible refine WQ.blkX ?_ ?_); focus rfl)
    | ((with_reducible refine WQ.blkY ?_ ?_); focus rfl)
    | refine WC.condT rfl ?_
    | refine WC.condF rfl ?_
    | refine WC.condTh rfl gdQ ?_
    | refine WC.condFh rfl gdQ ?_
    | (refine WC.cond rfl (fun hc => ?_) (fun hc => ?_) <;> (try first | (with_reducible replace hc := of_decide_eq_true hc) | (with_reducible replace hc := of_decide_eq_false hc) | (with_reducible replace hc := eqT hc) | (with_reducible replace hc := eqF hc) | (with_reducible replace hc := neT hc) | (with_reducible replace hc := neF hc) | (with_reducible replace hc := noT hc) | (with_reducible replace hc := noF hc)) <;> (try (exfalso; omega))))
  exact WQ.body (Reads.tmp rfl rfl) fun w' hw' => ⟨rfl, hw'.ext.below⟩
theorem box_cell {w w' : World} {a ta : Nat} {u : Value} (hb : w.heap[a]? = some (.cells [u].toArray ta (0, 0))) (h' : Ext (fun _ => False) w w') : w'.cell? ⟨a, 0, none⟩ = some u := by
  have h1 : a < w.heap.size := by
    rcases Nat.lt_or_ge a w.heap.size with h | h
    · exact h
    · rw [Array.getElem?_eq_none h] at hb; cases hb
  have h2 := (h'.block a h1 id).trans hb
  rw [cell_of_row w' a 0 [u].toArray ta (0, 0) h2]
  rfl
theorem find_pred {w0 w : World} {D : Nat → Prop} {H : List Item} (hw : Sat w0 D H w) (i : Nat) {a ta : Nat} {s : ByteArray} (hi : H[i]? = some (.box a ta [.string s])) : PredP Try.prog 36 [.pointer (some ⟨a, 0, none⟩)] (fun p => p.addr.toList == s.toList) w :=
  fun w' h' p => find1_q a s p w' (box_cell (hw.holds _ (List.mem_of_getElem? hi)) h')
theorem indexP_q (A : Option Addr) (n c : Nat) (xs : List Pth) (f : FuncId) (caps : List Value) (g : Pth → Bool) (w : World) (hL : Ps w w.heap.size A n xs) (hn : n ≤ 1000000) (hp : PredP Try.prog f caps g w) (hB : callsB Try.prog f = true) :
    Calls Try.prog 35 #[.slice A n c, .func (.func f) #[] caps.toArray] w
      fun e w' => e = .returned (.int .i64 (if xs.findIdx g < n then ((xs.findIdx g : Nat) : Int) else -1)) ∧ Below w.heap.size w w' := by
  have hl := hL.len
  refine enterW (fun _ => False) _ Try.func35 rfl (by simp only [Try.ntmps35, List.length_cons, List.length_nil, Nat.reduceAdd, Nat.reduceSub]; rfl) ?_
  refine WC.addVw cs_len hL ?_
  repeat' (first
    | with_reducible refine WL.nil ?_
    | with_reducible refine WQ.thenN ?_
    | with_reducible refine WQ.code ?_
    | with_reducible refine WC.seq ?_
    | with_reducible refine WC.region ?_
    | ((with_reducible refine WL.isN_move ?_); first | refine WL.yld rfl (Yld.pure rfl nrmQ) ?_)
    | ((with_reducible refine WL.isN_assign ?_); first | refine WL.yld rfl (Yld.pure rfl nrmQ) ?_)
    | ((with_reducible refine WL.isN_bin ?_); first | refine WL.yld rfl (Yld.pure rfl nrmQ) ?_ | refine WL.yld rfl (Yld.rem rfl rfl rfl rfl (by omega) (by omega)) ?_ | refine WL.yld rfl (Yld.quo rfl rfl rfl rfl (by omega) (by omega) nrmQ) ?_ | refine WL.yld rfl (Yld.eqlB rfl rfl rfl rfl) ?_ | refine WL.yld rfl (Yld.neqB rfl rfl rfl rfl) ?_ | refine WL.yld rfl (Yld.eqlA 4 rfl rfl rfl (by kernel_rfl) (by kernel_rfl) rfl rfl) ?_ | refine WL.yld rfl (Yld.neqA 4 rfl rfl rfl (by kernel_rfl) (by kernel_rfl) rfl rfl) ?_ | refine WL.yld rfl (Yld.quoT rfl rfl rfl rfl (by omega) nrmQ) ?_)
    | ((with_reducible refine WL.isN_load ?_); first | refine WL.yld rfl (Yld.load rfl rfl rfl rfl cellQ) ?_ | refine WL.yld rfl (Yld.loadAgg rfl rfl rfl rfl rfl aggQ) ?_)
    | ((with_reducible refine WL.isN_iaddr ?_); first | refine WL.yld rfl (Yld.indexS 0 rfl rfl rfl rfl rfl rfl (by omega)) ?_ | refine WL.yld rfl (Yld.indexS 1 rfl rfl rfl rfl rfl rfl (by omega)) ?_ | refine WL.yld rfl (Yld.indexS 2 rfl rfl rfl rfl rfl rfl (by omega)) ?_ | refine WL.yld rfl (Yld.indexS _ rfl rfl rfl rfl rfl rfl (by omega)) ?_ | refine WL.yld rfl (Yld.indexA 0 rfl rfl rfl rfl rfl rfl (by omega)) ?_ | refine WL.yld rfl (Yld.indexA 1 rfl rfl rfl rfl rfl rfl (by omega)) ?_ | refine WL.yld rfl (Yld.indexA _ rfl rfl rfl rfl rfl rfl (by omega)) ?_)
    | ((with_reducible refine WL.isN_call ?_); first | refine WL.yld rfl (Yld.lenSlice rfl rfl rfl) ?_ | refine WL.yld rfl (Yld.lenStr rfl rfl rfl) ?_)
    | with_reducible refine WC.block ?_
    | with_reducible refine WC.scope ?_
    | with_reducible refine WC.label ?_
    | with_reducible refine WQ.ngN ?_
    | with_reducible refine WQ.ngR ?_
    | with_reducible refine WQ.ngX ?_
    | with_reducible refine WC.skip ?_
    | with_reducible refine WC.ret ?_
    | with_reducible refine WC.exit ?_
    | with_reducible refine WQ.thenR ?_
    | with_reducible refine WQ.thenX ?_
    | with_reducible refine WQ.blkN ?_
    | with_reducible refine WQ.blkR ?_
    | ((with_reducible refine WQ.blkX ?_ ?_); focus rfl)
    | ((with_reducible refine WQ.blkY ?_ ?_); focus rfl)
    | refine WC.condT rfl ?_
    | refine WC.condF rfl ?_
    | refine WC.condTh rfl gdQ ?_
    | refine WC.condFh rfl gdQ ?_
    | (refine WC.cond rfl (fun hc => ?_) (fun hc => ?_) <;> (try first | (with_reducible replace hc := of_decide_eq_true hc) | (with_reducible replace hc := of_decide_eq_false hc) | (with_reducible replace hc := eqT hc) | (with_reducible replace hc := eqF hc) | (with_reducible replace hc := neT hc) | (with_reducible replace hc := neF hc) | (with_reducible replace hc := noT hc) | (with_reducible replace hc := noF hc)) <;> (try (exfalso; omega))))
  refine WC.loop (fun mm τ H => ∃ i : Nat, i ≤ n ∧ mm = n - i ∧ (∀ (j : Nat) x, j < i → xs[j]? = some x → g x = false) ∧
      τ = [(0, .slice A n c), (1, .func (.func f) #[] caps.toArray), (7, .int .i64 n), (8, .int .i64 i)] ∧ H = [.vw A n 14 (flat Pth.cs xs)])
    n _ _ [0] ?_ ?_ ⟨0, by omega, rfl, fun j x hj => absurd hj (by omega), rfl, rfl⟩ ?_
  · exact (by repeat (first | exact Sub.nil | refine Sub.cons rfl ?_ | refine Sub.consE rfl (int_eq (by omega)) ?_))
  · exact ⟨by decide, rfl⟩
  rintro mm τ H ⟨i, hi, rfl, hall, rfl, rfl⟩
  by_cases hlt : i < n
  · obtain ⟨m, hm⟩ : ∃ m, xs[i]? = some m := ⟨_, List.getElem?_eq_getElem (by omega)⟩
    have hpm : PartAt (flat Pth.cs xs) (i * 14) m.cs := PartAt.flat cs_len hm
    refine WC.vwAt 0 rfl (by omega) fun b off hA => ?_
    subst hA
    cases hpx : g m with
    | true =>
      have he := findC_take hm hall hpx
      repeat' (first
    | with_reducible refine WL.nil ?_
    | with_reducible refine WQ.thenN ?_
    | with_reducible refine WQ.code ?_
    | with_reducible refine WC.seq ?_
    | with_reducible refine WC.region ?_
    | ((with_reducible refine WL.isN_move ?_); first | refine WL.yld rfl (Yld.pure rfl nrmQ) ?_)
    | ((with_reducible refine WL.isN_assign ?_); first | refine WL.yld rfl (Yld.pure rfl nrmQ) ?_)
    | ((with_reducible refine WL.isN_bin ?_); first | refine WL.yld rfl (Yld.pure rfl nrmQ) ?_ | refine WL.yld rfl (Yld.rem rfl rfl rfl rfl (by omega) (by omega)) ?_ | refine WL.yld rfl (Yld.quo rfl rfl rfl rfl (by omega) (by omega) nrmQ) ?_ | refine WL.yld rfl (Yld.eqlB rfl rfl rfl rfl) ?_ | refine WL.yld rfl (Yld.neqB rfl rfl rfl rfl) ?_ | refine WL.yld rfl (Yld.eqlA 4 rfl rfl rfl (by kernel_rfl) (by kernel_rfl) rfl rfl) ?_ | refine WL.yld rfl (Yld.neqA 4 rfl rfl rfl (by kernel_rfl) (by kernel_rfl) rfl rfl) ?_ | refine WL.yld rfl (Yld.quoT rfl rfl rfl rfl (by omega) nrmQ) ?_)
    | ((with_reducible refine WL.isN_load ?_); first | refine WL.yld rfl (Yld.load rfl rfl rfl rfl cellQ) ?_ | refine WL.yld rfl (Yld.loadAgg rfl rfl rfl rfl rfl aggQ) ?_)
    | ((with_reducible refine WL.isN_iaddr ?_); first | refine WL.yld rfl (Yld.indexS 0 rfl rfl rfl rfl rfl rfl (by omega)) ?_ | refine WL.yld rfl (Yld.indexS 1 rfl rfl rfl rfl rfl rfl (by omega)) ?_ | refine WL.yld rfl (Yld.indexS 2 rfl rfl rfl rfl rfl rfl (by omega)) ?_ | refine WL.yld rfl (Yld.indexS _ rfl rfl rfl rfl rfl rfl (by omega)) ?_ | refine WL.yld rfl (Yld.indexA 0 rfl rfl rfl rfl rfl rfl (by omega)) ?_ | refine WL.yld rfl (Yld.indexA 1 rfl rfl rfl rfl rfl rfl (by omega)) ?_ | refine WL.yld rfl (Yld.indexA _ rfl rfl rfl rfl rfl rfl (by omega)) ?_)
    | ((with_reducible refine WL.isN_call ?_); first | refine WL.step rfl (StepTo.callV (v := .bool true) (us := pv m :: caps) rfl rfl rfl rfl rfl hB (fun w' hw' => hpx ▸ hp w' hw'.ext m) ?_) | refine WL.yld rfl (Yld.lenSlice rfl rfl rfl) ?_ | refine WL.yld rfl (Yld.lenStr rfl rfl rfl) ?_)
    | with_reducible refine WC.block ?_
    | with_reducible refine WC.scope ?_
    | with_reducible refine WC.label ?_
    | with_reducible refine WQ.ngN ?_
    | with_reducible refine WQ.ngR ?_
    | with_reducible refine WQ.ngX ?_
    | with_reducible refine WC.skip ?_
    | with_reducible refine WC.ret ?_
    | with_reducible refine WC.exit ?_
    | with_reducible refine WQ.thenR ?_
    | with_reducible refine WQ.thenX ?_
    | with_reducible refine WQ.blkN ?_
    | with_reducible refine WQ.blkR ?_
    | ((with_reducible refine WQ.blkX ?_ ?_); focus rfl)
    | ((with_reducible refine WQ.blkY ?_ ?_); focus rfl)
    | refine WC.condT rfl ?_
    | refine WC.condF rfl ?_
    | refine WC.condTh rfl gdQ ?_
    | refine WC.condFh rfl gdQ ?_
    | (refine WC.cond rfl (fun hc => ?_) (fun hc => ?_) <;> (try first | (with_reducible replace hc := of_decide_eq_true hc) | (with_reducible replace hc := of_decide_eq_false hc) | (with_reducible replace hc := eqT hc) | (with_reducible replace hc := eqF hc) | (with_reducible replace hc := neT hc) | (with_reducible replace hc := neF hc) | (with_reducible replace hc := noT hc) | (with_reducible replace hc := noF hc)) <;> (try (exfalso; omega))))
      exact WQ.body (Reads.tmp rfl rfl) fun w' hw' => ⟨by rw [he, if_pos hlt], hw'.ext.below⟩
    | false =>
      repeat' (first
    | with_reducible refine WL.nil ?_
    | with_reducible refine WQ.thenN ?_
    | with_reducible refine WQ.code ?_
    | with_reducible refine WC.seq ?_
    | with_reducible refine WC.region ?_
    | ((with_reducible refine WL.isN_move ?_); first | refine WL.yld rfl (Yld.pure rfl nrmQ) ?_)
    | ((with_reducible refine WL.isN_assign ?_); first | refine WL.yld rfl (Yld.pure rfl nrmQ) ?_)
    | ((with_reducible refine WL.isN_bin ?_); first | refine WL.yld rfl (Yld.pure rfl nrmQ) ?_ | refine WL.yld rfl (Yld.rem rfl rfl rfl rfl (by omega) (by omega)) ?_ | refine WL.yld rfl (Yld.quo rfl rfl rfl rfl (by omega) (by omega) nrmQ) ?_ | refine WL.yld rfl (Yld.eqlB rfl rfl rfl rfl) ?_ | refine WL.yld rfl (Yld.neqB rfl rfl rfl rfl) ?_ | refine WL.yld rfl (Yld.eqlA 4 rfl rfl rfl (by kernel_rfl) (by kernel_rfl) rfl rfl) ?_ | refine WL.yld rfl (Yld.neqA 4 rfl rfl rfl (by kernel_rfl) (by kernel_rfl) rfl rfl) ?_ | refine WL.yld rfl (Yld.quoT rfl rfl rfl rfl (by omega) nrmQ) ?_)
    | ((with_reducible refine WL.isN_load ?_); first | refine WL.yld rfl (Yld.load rfl rfl rfl rfl cellQ) ?_ | refine WL.yld rfl (Yld.loadAgg rfl rfl rfl rfl rfl aggQ) ?_)
    | ((with_reducible refine WL.isN_iaddr ?_); first | refine WL.yld rfl (Yld.indexS 0 rfl rfl rfl rfl rfl rfl (by omega)) ?_ | refine WL.yld rfl (Yld.indexS 1 rfl rfl rfl rfl rfl rfl (by omega)) ?_ | refine WL.yld rfl (Yld.indexS 2 rfl rfl rfl rfl rfl rfl (by omega)) ?_ | refine WL.yld rfl (Yld.indexS _ rfl rfl rfl rfl rfl rfl (by omega)) ?_ | refine WL.yld rfl (Yld.indexA 0 rfl rfl rfl rfl rfl rfl (by omega)) ?_ | refine WL.yld rfl (Yld.indexA 1 rfl rfl rfl rfl rfl rfl (by omega)) ?_ | refine WL.yld rfl (Yld.indexA _ rfl rfl rfl rfl rfl rfl (by omega)) ?_)
    | ((with_reducible refine WL.isN_call ?_); first | refine WL.step rfl (StepTo.callV (v := .bool false) (us := pv m :: caps) rfl rfl rfl rfl rfl hB (fun w' hw' => hpx ▸ hp w' hw'.ext m) ?_) | refine WL.yld rfl (Yld.lenSlice rfl rfl rfl) ?_ | refine WL.yld rfl (Yld.lenStr rfl rfl rfl) ?_)
    | with_reducible refine WC.block ?_
    | with_reducible refine WC.scope ?_
    | with_reducible refine WC.label ?_
    | with_reducible refine WQ.ngN ?_
    | with_reducible refine WQ.ngR ?_
    | with_reducible refine WQ.ngX ?_
    | with_reducible refine WC.skip ?_
    | with_reducible refine WC.ret ?_
    | with_reducible refine WC.exit ?_
    | with_reducible refine WQ.thenR ?_
    | with_reducible refine WQ.thenX ?_
    | with_reducible refine WQ.blkN ?_
    | with_reducible refine WQ.blkR ?_
    | ((with_reducible refine WQ.blkX ?_ ?_); focus rfl)
    | ((with_reducible refine WQ.blkY ?_ ?_); focus rfl)
    | refine WC.condT rfl ?_
    | refine WC.condF rfl ?_
    | refine WC.condTh rfl gdQ ?_
    | refine WC.condFh rfl gdQ ?_
    | (refine WC.cond rfl (fun hc => ?_) (fun hc => ?_) <;> (try first | (with_reducible replace hc := of_decide_eq_true hc) | (with_reducible replace hc := of_decide_eq_false hc) | (with_reducible replace hc := eqT hc) | (with_reducible replace hc := eqF hc) | (with_reducible replace hc := neT hc) | (with_reducible replace hc := neF hc) | (with_reducible replace hc := noT hc) | (with_reducible replace hc := noF hc)) <;> (try (exfalso; omega))))
      exact WQ.rnd (n - (i + 1)) _ _ [0] (by repeat (first | exact Sub.nil | refine Sub.cons rfl ?_ | refine Sub.consE rfl (int_eq (by omega)) ?_)) ⟨by decide, rfl⟩ (by omega) ⟨i + 1, by omega, rfl, all_step hm hall hpx, rfl, rfl⟩
  · have he : xs.findIdx g = xs.length := List.findIdx_eq_length.2 fun x hx' => by
      obtain ⟨j, hj, rfl⟩ := List.getElem_of_mem hx'
      exact hall j _ (by omega) (List.getElem?_eq_getElem hj)
    repeat' (first
    | with_reducible refine WL.nil ?_
    | with_reducible refine WQ.thenN ?_
    | with_reducible refine WQ.code ?_
    | with_reducible refine WC.seq ?_
    | with_reducible refine WC.region ?_
    | ((with_reducible refine WL.isN_move ?_); first | refine WL.yld rfl (Yld.pure rfl nrmQ) ?_)
    | ((with_reducible refine WL.isN_assign ?_); first | refine WL.yld rfl (Yld.pure rfl nrmQ) ?_)
    | ((with_reducible refine WL.isN_bin ?_); first | refine WL.yld rfl (Yld.pure rfl nrmQ) ?_ | refine WL.yld rfl (Yld.rem rfl rfl rfl rfl (by omega) (by omega)) ?_ | refine WL.yld rfl (Yld.quo rfl rfl rfl rfl (by omega) (by omega) nrmQ) ?_ | refine WL.yld rfl (Yld.eqlB rfl rfl rfl rfl) ?_ | refine WL.yld rfl (Yld.neqB rfl rfl rfl rfl) ?_ | refine WL.yld rfl (Yld.eqlA 4 rfl rfl rfl (by kernel_rfl) (by kernel_rfl) rfl rfl) ?_ | refine WL.yld rfl (Yld.neqA 4 rfl rfl rfl (by kernel_rfl) (by kernel_rfl) rfl rfl) ?_ | refine WL.yld rfl (Yld.quoT rfl rfl rfl rfl (by omega) nrmQ) ?_)
    | ((with_reducible refine WL.isN_load ?_); first | refine WL.yld rfl (Yld.load rfl rfl rfl rfl cellQ) ?_ | refine WL.yld rfl (Yld.loadAgg rfl rfl rfl rfl rfl aggQ) ?_)
    | ((with_reducible refine WL.isN_iaddr ?_); first | refine WL.yld rfl (Yld.indexS 0 rfl rfl rfl rfl rfl rfl (by omega)) ?_ | refine WL.yld rfl (Yld.indexS 1 rfl rfl rfl rfl rfl rfl (by omega)) ?_ | refine WL.yld rfl (Yld.indexS 2 rfl rfl rfl rfl rfl rfl (by omega)) ?_ | refine WL.yld rfl (Yld.indexS _ rfl rfl rfl rfl rfl rfl (by omega)) ?_ | refine WL.yld rfl (Yld.indexA 0 rfl rfl rfl rfl rfl rfl (by omega)) ?_ | refine WL.yld rfl (Yld.indexA 1 rfl rfl rfl rfl rfl rfl (by omega)) ?_ | refine WL.yld rfl (Yld.indexA _ rfl rfl rfl rfl rfl rfl (by omega)) ?_)
    | ((with_reducible refine WL.isN_call ?_); first | refine WL.yld rfl (Yld.lenSlice rfl rfl rfl) ?_ | refine WL.yld rfl (Yld.lenStr rfl rfl rfl) ?_)
    | with_reducible refine WC.block ?_
    | with_reducible refine WC.scope ?_
    | with_reducible refine WC.label ?_
    | with_reducible refine WQ.ngN ?_
    | with_reducible refine WQ.ngR ?_
    | with_reducible refine WQ.ngX ?_
    | with_reducible refine WC.skip ?_
    | with_reducible refine WC.ret ?_
    | with_reducible refine WC.exit ?_
    | with_reducible refine WQ.thenR ?_
    | with_reducible refine WQ.thenX ?_
    | with_reducible refine WQ.blkN ?_
    | with_reducible refine WQ.blkR ?_
    | ((with_reducible refine WQ.blkX ?_ ?_); focus rfl)
    | ((with_reducible refine WQ.blkY ?_ ?_); focus rfl)
    | refine WC.condT rfl ?_
    | refine WC.condF rfl ?_
    | refine WC.condTh rfl gdQ ?_
    | refine WC.condFh rfl gdQ ?_
    | (refine WC.cond rfl (fun hc => ?_) (fun hc => ?_) <;> (try first | (with_reducible replace hc := of_decide_eq_true hc) | (with_reducible replace hc := of_decide_eq_false hc) | (with_reducible replace hc := eqT hc) | (with_reducible replace hc := eqF hc) | (with_reducible replace hc := neT hc) | (with_reducible replace hc := neF hc) | (with_reducible replace hc := noT hc) | (with_reducible replace hc := noF hc)) <;> (try (exfalso; omega))))
    exact WQ.body (Reads.tmp rfl rfl) fun w' hw' => ⟨by rw [he, if_neg (by omega)], hw'.ext.below⟩
def findI (s : ByteArray) (l : List Pth) : Int := if find s l < l.length then ((find s l : Nat) : Int) else -1
theorem find_q (A : Option Addr) (n c : Nat) (pr al : Int) (l : List Pth) (s : ByteArray) (w : World) (hL : Ps w w.heap.size A n l) (hn : n ≤ 1000000) :
    Calls Try.prog 14 #[.agg #[.slice A n c, .int .i64 pr, .int .i64 al], .string s] w fun e w' => e = .returned (.int .i64 (findI s l)) ∧ Below w.heap.size w w' := by
  have hl := hL.len
  refine enterW (fun _ => False) _ Try.func14 rfl (by simp only [Try.ntmps14, List.length_cons, List.length_nil, Nat.reduceAdd, Nat.reduceSub]; rfl) ?_
  refine WC.addVw cs_len hL ?_
  repeat' (first
    | with_reducible refine WL.nil ?_
    | with_reducible refine WQ.thenN ?_
    | with_reducible refine WQ.code ?_
    | with_reducible refine WC.seq ?_
    | with_reducible refine WC.region ?_
    | ((with_reducible refine WL.isN_assign ?_); first | refine WL.yld rfl (Yld.pure rfl nrmQ) ?_)
    | ((with_reducible refine WL.isN_load ?_); first | refine WL.yld rfl (Yld.load rfl rfl rfl rfl cellQ) ?_ | refine WL.yld rfl (Yld.loadAgg rfl rfl rfl rfl rfl aggQ) ?_)
    | ((with_reducible refine WL.isN_faddr ?_); first | refine WL.yld rfl (Yld.fieldAddr rfl rfl rfl rfl rfl rfl rfl) ?_)
    | ((with_reducible refine WL.isN_func ?_); first | refine WL.yld rfl (Yld.func rfl rfl rfl) ?_)
    | ((with_reducible refine WL.isN_box ?_); first | refine WL.step rfl (StepTo.boxA rfl rfl rfl rfl (fun _ => ?_)) | refine WL.step rfl (StepTo.box1 rfl rfl rfl rfl rfl (fun _ => ?_)))
    | with_reducible refine WC.block ?_
    | with_reducible refine WC.scope ?_
    | with_reducible refine WC.label ?_
    | with_reducible refine WQ.ngN ?_
    | with_reducible refine WQ.ngR ?_
    | with_reducible refine WQ.ngX ?_
    | with_reducible refine WC.skip ?_
    | with_reducible refine WC.ret ?_
    | with_reducible refine WC.exit ?_
    | with_reducible refine WQ.thenR ?_
    | with_reducible refine WQ.thenX ?_
    | with_reducible refine WQ.blkN ?_
    | with_reducible refine WQ.blkR ?_
    | ((with_reducible refine WQ.blkX ?_ ?_); focus rfl)
    | ((with_reducible refine WQ.blkY ?_ ?_); focus rfl)
    | refine WC.condT rfl ?_
    | refine WC.condF rfl ?_
    | refine WC.condTh rfl gdQ ?_
    | refine WC.condFh rfl gdQ ?_
    | (refine WC.cond rfl (fun hc => ?_) (fun hc => ?_) <;> (try first | (with_reducible replace hc := of_decide_eq_true hc) | (with_reducible replace hc := of_decide_eq_false hc) | (with_reducible replace hc := eqT hc) | (with_reducible replace hc := eqF hc) | (with_reducible replace hc := neT hc) | (with_reducible replace hc := neF hc) | (with_reducible replace hc := noT hc) | (with_reducible replace hc := noF hc)) <;> (try (exfalso; omega))))
  rename_i bp bs
  refine WL.step rfl (StepTo.callV (us := [.slice A n c, .func (.func 36) #[] [Value.pointer (some ⟨bs, 0, none⟩)].toArray]) rfl rfl rfl rfl rfl (by kernel_rfl) (fun w hw => indexP_q A n c l 36 [.pointer (some ⟨bs, 0, none⟩)] _ w (hw.lst 2 cs_len (by omega) rfl) hn (find_pred hw 0 rfl) (by kernel_rfl)) ?_)
  repeat' (first
    | with_reducible refine WL.nil ?_
    | with_reducible refine WQ.thenN ?_
    | with_reducible refine WQ.code ?_
    | with_reducible refine WC.seq ?_
    | with_reducible refine WC.region ?_
    | ((with_reducible refine WL.isN_assign ?_); first | refine WL.yld rfl (Yld.pure rfl nrmQ) ?_)
    | ((with_reducible refine WL.isN_load ?_); first | refine WL.yld rfl (Yld.load rfl rfl rfl rfl cellQ) ?_ | refine WL.yld rfl (Yld.loadAgg rfl rfl rfl rfl rfl aggQ) ?_)
    | ((with_reducible refine WL.isN_faddr ?_); first | refine WL.yld rfl (Yld.fieldAddr rfl rfl rfl rfl rfl rfl rfl) ?_)
    | ((with_reducible refine WL.isN_func ?_); first | refine WL.yld rfl (Yld.func rfl rfl rfl) ?_)
    | ((with_reducible refine WL.isN_box ?_); first | refine WL.step rfl (StepTo.boxA rfl rfl rfl rfl (fun _ => ?_)) | refine WL.step rfl (StepTo.box1 rfl rfl rfl rfl rfl (fun _ => ?_)))
    | with_reducible refine WC.block ?_
    | with_reducible refine WC.scope ?_
    | with_reducible refine WC.label ?_
    | with_reducible refine WQ.ngN ?_
    | with_reducible refine WQ.ngR ?_
    | with_reducible refine WQ.ngX ?_
    | with_reducible refine WC.skip ?_
    | with_reducible refine WC.ret ?_
    | with_reducible refine WC.exit ?_
    | with_reducible refine WQ.thenR ?_
    | with_reducible refine WQ.thenX ?_
    | with_reducible refine WQ.blkN ?_
    | with_reducible refine WQ.blkR ?_
    | ((with_reducible refine WQ.blkX ?_ ?_); focus rfl)
    | ((with_reducible refine WQ.blkY ?_ ?_); focus rfl)
    | refine WC.condT rfl ?_
    | refine WC.condF rfl ?_
    | refine WC.condTh rfl gdQ ?_
    | refine WC.condFh rfl gdQ ?_
    | (refine WC.cond rfl (fun hc => ?_) (fun hc => ?_) <;> (try first | (with_reducible replace hc := of_decide_eq_true hc) | (with_reducible replace hc := of_decide_eq_false hc) | (with_reducible replace hc := eqT hc) | (with_reducible replace hc := eqF hc) | (with_reducible replace hc := neT hc) | (with_reducible replace hc := neF hc) | (with_reducible replace hc := noT hc) | (with_reducible replace hc := noF hc)) <;> (try (exfalso; omega))))
  exact WQ.body (Reads.tmp rfl rfl) fun w' hw' => ⟨by unfold findI find; rw [hl], hw'.ext.below⟩
theorem rfind_q (A : Option Addr) (n c : Nat) (pr al : Int) (l : List Pth) (s : ByteArray) (w : World) (hL : Ps w w.heap.size A n l) (hn : n ≤ 1000000) :
    Calls Try.prog 15 #[.agg #[.slice A n c, .int .i64 pr, .int .i64 al], .string s] w fun e w' => e = .returned (.int .i64 (findI s l)) ∧ Below w.heap.size w w' := by
  have hl := hL.len
  refine enterW (fun _ => False) _ Try.func15 rfl (by simp only [Try.ntmps15, List.length_cons, List.length_nil, Nat.reduceAdd, Nat.reduceSub]; rfl) ?_
  refine WC.addVw cs_len hL ?_
  repeat' (first
    | with_reducible refine WL.nil ?_
    | with_reducible refine WQ.thenN ?_
    | with_reducible refine WQ.code ?_
    | with_reducible refine WC.seq ?_
    | with_reducible refine WC.region ?_
    | ((with_reducible refine WL.isN_move ?_); first | refine WL.yld rfl (Yld.pure rfl nrmQ) ?_)
    | ((with_reducible refine WL.isN_assign ?_); first | refine WL.yld rfl (Yld.pure rfl nrmQ) ?_)
    | ((with_reducible refine WL.isN_bin ?_); first | refine WL.yld rfl (Yld.pure rfl nrmQ) ?_ | refine WL.yld rfl (Yld.rem rfl rfl rfl rfl (by omega) (by omega)) ?_ | refine WL.yld rfl (Yld.quo rfl rfl rfl rfl (by omega) (by omega) nrmQ) ?_ | refine WL.yld rfl (Yld.eqlB rfl rfl rfl rfl) ?_ | refine WL.yld rfl (Yld.neqB rfl rfl rfl rfl) ?_ | refine WL.yld rfl (Yld.eqlA 4 rfl rfl rfl (by kernel_rfl) (by kernel_rfl) rfl rfl) ?_ | refine WL.yld rfl (Yld.neqA 4 rfl rfl rfl (by kernel_rfl) (by kernel_rfl) rfl rfl) ?_ | refine WL.yld rfl (Yld.quoT rfl rfl rfl rfl (by omega) nrmQ) ?_)
    | ((with_reducible refine WL.isN_load ?_); first | refine WL.yld rfl (Yld.load rfl rfl rfl rfl cellQ) ?_ | refine WL.yld rfl (Yld.loadAgg rfl rfl rfl rfl rfl aggQ) ?_)
    | ((with_reducible refine WL.isN_faddr ?_); first | refine WL.yld rfl (Yld.fieldAddr rfl rfl rfl rfl rfl rfl rfl) ?_)
    | ((with_reducible refine WL.isN_iaddr ?_); first | refine WL.yld rfl (Yld.indexS 0 rfl rfl rfl rfl rfl rfl (by omega)) ?_ | refine WL.yld rfl (Yld.indexS 1 rfl rfl rfl rfl rfl rfl (by omega)) ?_ | refine WL.yld rfl (Yld.indexS 2 rfl rfl rfl rfl rfl rfl (by omega)) ?_ | refine WL.yld rfl (Yld.indexS _ rfl rfl rfl rfl rfl rfl (by omega)) ?_ | refine WL.yld rfl (Yld.indexA 0 rfl rfl rfl rfl rfl rfl (by omega)) ?_ | refine WL.yld rfl (Yld.indexA 1 rfl rfl rfl rfl rfl rfl (by omega)) ?_ | refine WL.yld rfl (Yld.indexA _ rfl rfl rfl rfl rfl rfl (by omega)) ?_)
    | ((with_reducible refine WL.isN_call ?_); first | refine WL.yld rfl (Yld.lenSlice rfl rfl rfl) ?_ | refine WL.yld rfl (Yld.lenStr rfl rfl rfl) ?_)
    | ((with_reducible refine WL.isN_box ?_); first | refine WL.step rfl (StepTo.boxA rfl rfl rfl rfl (fun _ => ?_)) | refine WL.step rfl (StepTo.box1 rfl rfl rfl rfl rfl (fun _ => ?_)))
    | with_reducible refine WC.block ?_
    | with_reducible refine WC.scope ?_
    | with_reducible refine WC.label ?_
    | with_reducible refine WQ.ngN ?_
    | with_reducible refine WQ.ngR ?_
    | with_reducible refine WQ.ngX ?_
    | with_reducible refine WC.skip ?_
    | with_reducible refine WC.ret ?_
    | with_reducible refine WC.exit ?_
    | with_reducible refine WQ.thenR ?_
    | with_reducible refine WQ.thenX ?_
    | with_reducible refine WQ.blkN ?_
    | with_reducible refine WQ.blkR ?_
    | ((with_reducible refine WQ.blkX ?_ ?_); focus rfl)
    | ((with_reducible refine WQ.blkY ?_ ?_); focus rfl)
    | refine WC.condT rfl ?_
    | refine WC.condF rfl ?_
    | refine WC.condTh rfl gdQ ?_
    | refine WC.condFh rfl gdQ ?_
    | (refine WC.cond rfl (fun hc => ?_) (fun hc => ?_) <;> (try first | (with_reducible replace hc := of_decide_eq_true hc) | (with_reducible replace hc := of_decide_eq_false hc) | (with_reducible replace hc := eqT hc) | (with_reducible replace hc := eqF hc) | (with_reducible replace hc := neT hc) | (with_reducible replace hc := neF hc) | (with_reducible replace hc := noT hc) | (with_reducible replace hc := noF hc)) <;> (try (exfalso; omega))))
  rename_i bp
  refine WC.loop (fun mm τ H => ∃ i : Nat, i ≤ n ∧ mm = n - i ∧ (∀ (j : Nat) (x : Pth), j < i → l[j]? = some x → (x.addr.toList == s.toList) = false) ∧
      τ = [(1, .string s), (2, .pointer (some ⟨bp, 0, none⟩)), (5, .int .i64 i)] ∧ H = [.box bp 33 [.slice A n c, .int .i64 pr, .int .i64 al], .vw A n 14 (flat Pth.cs l)])
    n _ _ [0, 1] ?_ ?_ ⟨0, by omega, rfl, fun j x hj => absurd hj (by omega), rfl, rfl⟩ ?_
  · exact (by repeat (first | exact Sub.nil | refine Sub.cons rfl ?_ | refine Sub.consE rfl (int_eq (by omega)) ?_))
  · exact ⟨by decide, rfl⟩
  rintro mm τ H ⟨i, hi, rfl, hall, rfl, rfl⟩
  by_cases hlt : i < n
  · obtain ⟨m, hm⟩ : ∃ m, l[i]? = some m := ⟨_, List.getElem?_eq_getElem (by omega)⟩
    have hpm : PartAt (flat Pth.cs l) (i * 14) m.cs := PartAt.flat cs_len hm
    refine WC.vwAt 1 rfl (by omega) fun b off hA => ?_
    subst hA
    cases hpx : m.addr.toList == s.toList with
    | true =>
      have he := findC_take (g := fun p : Pth => p.addr.toList == s.toList) hm hall hpx
      repeat' (first
    | with_reducible refine WL.nil ?_
    | with_reducible refine WQ.thenN ?_
    | with_reducible refine WQ.code ?_
    | with_reducible refine WC.seq ?_
    | with_reducible refine WC.region ?_
    | ((with_reducible refine WL.isN_move ?_); first | refine WL.yld rfl (Yld.pure rfl nrmQ) ?_)
    | ((with_reducible refine WL.isN_assign ?_); first | refine WL.yld rfl (Yld.pure rfl nrmQ) ?_)
    | ((with_reducible refine WL.isN_bin ?_); first | refine WL.yld rfl (Yld.pure rfl nrmQ) ?_ | refine WL.yld rfl (Yld.rem rfl rfl rfl rfl (by omega) (by omega)) ?_ | refine WL.yld rfl (Yld.quo rfl rfl rfl rfl (by omega) (by omega) nrmQ) ?_ | refine WL.yld rfl (Yld.eqlB rfl rfl rfl rfl) ?_ | refine WL.yld rfl (Yld.neqB rfl rfl rfl rfl) ?_ | refine WL.yld rfl (Yld.eqlA 4 rfl rfl rfl (by kernel_rfl) (by kernel_rfl) rfl rfl) ?_ | refine WL.yld rfl (Yld.neqA 4 rfl rfl rfl (by kernel_rfl) (by kernel_rfl) rfl rfl) ?_ | refine WL.yld rfl (Yld.quoT rfl rfl rfl rfl (by omega) nrmQ) ?_)
    | ((with_reducible refine WL.isN_load ?_); first | refine WL.yld rfl (Yld.load rfl rfl rfl rfl cellQ) ?_ | refine WL.yld rfl (Yld.loadAgg rfl rfl rfl rfl rfl aggQ) ?_)
    | ((with_reducible refine WL.isN_faddr ?_); first | refine WL.yld rfl (Yld.fieldAddr rfl rfl rfl rfl rfl rfl rfl) ?_)
    | ((with_reducible refine WL.isN_iaddr ?_); first | refine WL.yld rfl (Yld.indexS 0 rfl rfl rfl rfl rfl rfl (by omega)) ?_ | refine WL.yld rfl (Yld.indexS 1 rfl rfl rfl rfl rfl rfl (by omega)) ?_ | refine WL.yld rfl (Yld.indexS 2 rfl rfl rfl rfl rfl rfl (by omega)) ?_ | refine WL.yld rfl (Yld.indexS _ rfl rfl rfl rfl rfl rfl (by omega)) ?_ | refine WL.yld rfl (Yld.indexA 0 rfl rfl rfl rfl rfl rfl (by omega)) ?_ | refine WL.yld rfl (Yld.indexA 1 rfl rfl rfl rfl rfl rfl (by omega)) ?_ | refine WL.yld rfl (Yld.indexA _ rfl rfl rfl rfl rfl rfl (by omega)) ?_)
    | ((with_reducible refine WL.isN_call ?_); first | refine WL.yld rfl (Yld.lenSlice rfl rfl rfl) ?_ | refine WL.yld rfl (Yld.lenStr rfl rfl rfl) ?_)
    | ((with_reducible refine WL.isN_box ?_); first | refine WL.step rfl (StepTo.boxA rfl rfl rfl rfl (fun _ => ?_)) | refine WL.step rfl (StepTo.box1 rfl rfl rfl rfl rfl (fun _ => ?_)))
    | with_reducible refine WC.block ?_
    | with_reducible refine WC.scope ?_
    | with_reducible refine WC.label ?_
    | with_reducible refine WQ.ngN ?_
    | with_reducible refine WQ.ngR ?_
    | with_reducible refine WQ.ngX ?_
    | with_reducible refine WC.skip ?_
    | with_reducible refine WC.ret ?_
    | with_reducible refine WC.exit ?_
    | with_reducible refine WQ.thenR ?_
    | with_reducible refine WQ.thenX ?_
    | with_reducible refine WQ.blkN ?_
    | with_reducible refine WQ.blkR ?_
    | ((with_reducible refine WQ.blkX ?_ ?_); focus rfl)
    | ((with_reducible refine WQ.blkY ?_ ?_); focus rfl)
    | refine WC.condT rfl ?_
    | refine WC.condF rfl ?_
    | refine WC.condTh rfl gdQ ?_
    | refine WC.condFh rfl gdQ ?_
    | (refine WC.cond rfl (fun hc => ?_) (fun hc => ?_) <;> (try first | (with_reducible replace hc := of_decide_eq_true hc) | (with_reducible replace hc := of_decide_eq_false hc) | (with_reducible replace hc := eqT hc) | (with_reducible replace hc := eqF hc) | (with_reducible replace hc := neT hc) | (with_reducible replace hc := neF hc) | (with_reducible replace hc := noT hc) | (with_reducible replace hc := noF hc)) <;> (try (exfalso; omega))))
      exact WQ.body (Reads.tmp rfl rfl) fun w' hw' => ⟨by unfold findI find; rw [he, if_pos (by omega)], hw'.ext.below⟩
    | false =>
      repeat' (first
    | with_reducible refine WL.nil ?_
    | with_reducible refine WQ.thenN ?_
    | with_reducible refine WQ.code ?_
    | with_reducible refine WC.seq ?_
    | with_reducible refine WC.region ?_
    | ((with_reducible refine WL.isN_move ?_); first | refine WL.yld rfl (Yld.pure rfl nrmQ) ?_)
    | ((with_reducible refine WL.isN_assign ?_); first | refine WL.yld rfl (Yld.pure rfl nrmQ) ?_)
    | ((with_reducible refine WL.isN_bin ?_); first | refine WL.yld rfl (Yld.pure rfl nrmQ) ?_ | refine WL.yld rfl (Yld.rem rfl rfl rfl rfl (by omega) (by omega)) ?_ | refine WL.yld rfl (Yld.quo rfl rfl rfl rfl (by omega) (by omega) nrmQ) ?_ | refine WL.yld rfl (Yld.eqlB rfl rfl rfl rfl) ?_ | refine WL.yld rfl (Yld.neqB rfl rfl rfl rfl) ?_ | refine WL.yld rfl (Yld.eqlA 4 rfl rfl rfl (by kernel_rfl) (by kernel_rfl) rfl rfl) ?_ | refine WL.yld rfl (Yld.neqA 4 rfl rfl rfl (by kernel_rfl) (by kernel_rfl) rfl rfl) ?_ | refine WL.yld rfl (Yld.quoT rfl rfl rfl rfl (by omega) nrmQ) ?_)
    | ((with_reducible refine WL.isN_load ?_); first | refine WL.yld rfl (Yld.load rfl rfl rfl rfl cellQ) ?_ | refine WL.yld rfl (Yld.loadAgg rfl rfl rfl rfl rfl aggQ) ?_)
    | ((with_reducible refine WL.isN_faddr ?_); first | refine WL.yld rfl (Yld.fieldAddr rfl rfl rfl rfl rfl rfl rfl) ?_)
    | ((with_reducible refine WL.isN_iaddr ?_); first | refine WL.yld rfl (Yld.indexS 0 rfl rfl rfl rfl rfl rfl (by omega)) ?_ | refine WL.yld rfl (Yld.indexS 1 rfl rfl rfl rfl rfl rfl (by omega)) ?_ | refine WL.yld rfl (Yld.indexS 2 rfl rfl rfl rfl rfl rfl (by omega)) ?_ | refine WL.yld rfl (Yld.indexS _ rfl rfl rfl rfl rfl rfl (by omega)) ?_ | refine WL.yld rfl (Yld.indexA 0 rfl rfl rfl rfl rfl rfl (by omega)) ?_ | refine WL.yld rfl (Yld.indexA 1 rfl rfl rfl rfl rfl rfl (by omega)) ?_ | refine WL.yld rfl (Yld.indexA _ rfl rfl rfl rfl rfl rfl (by omega)) ?_)
    | ((with_reducible refine WL.isN_call ?_); first | refine WL.yld rfl (Yld.lenSlice rfl rfl rfl) ?_ | refine WL.yld rfl (Yld.lenStr rfl rfl rfl) ?_)
    | ((with_reducible refine WL.isN_box ?_); first | refine WL.step rfl (StepTo.boxA rfl rfl rfl rfl (fun _ => ?_)) | refine WL.step rfl (StepTo.box1 rfl rfl rfl rfl rfl (fun _ => ?_)))
    | with_reducible refine WC.block ?_
    | with_reducible refine WC.scope ?_
    | with_reducible refine WC.label ?_
    | with_reducible refine WQ.ngN ?_
    | with_reducible refine WQ.ngR ?_
    | with_reducible refine WQ.ngX ?_
    | with_reducible refine WC.skip ?_
    | with_reducible refine WC.ret ?_
    | with_reducible refine WC.exit ?_
    | with_reducible refine WQ.thenR ?_
    | with_reducible refine WQ.thenX ?_
    | with_reducible refine WQ.blkN ?_
    | with_reducible refine WQ.blkR ?_
    | ((with_reducible refine WQ.blkX ?_ ?_); focus rfl)
    | ((with_reducible refine WQ.blkY ?_ ?_); focus rfl)
    | refine WC.condT rfl ?_
    | refine WC.condF rfl ?_
    | refine WC.condTh rfl gdQ ?_
    | refine WC.condFh rfl gdQ ?_
    | (refine WC.cond rfl (fun hc => ?_) (fun hc => ?_) <;> (try first | (with_reducible replace hc := of_decide_eq_true hc) | (with_reducible replace hc := of_decide_eq_false hc) | (with_reducible replace hc := eqT hc) | (with_reducible replace hc := eqF hc) | (with_reducible replace hc := neT hc) | (with_reducible replace hc := neF hc) | (with_reducible replace hc := noT hc) | (with_reducible replace hc := noF hc)) <;> (try (exfalso; omega))))
      exact WQ.rnd (n - (i + 1)) _ _ [0, 1] (by repeat (first | exact Sub.nil | refine Sub.cons rfl ?_ | refine Sub.consE rfl (int_eq (by omega)) ?_)) ⟨by decide, rfl⟩ (by omega) ⟨i + 1, by omega, rfl, all_step (g := fun p : Pth => p.addr.toList == s.toList) hm hall hpx, rfl, rfl⟩
  · have he : l.findIdx (fun p : Pth => p.addr.toList == s.toList) = l.length := List.findIdx_eq_length.2 fun x hx' => by
      obtain ⟨j, hj, rfl⟩ := List.getElem_of_mem hx'
      exact hall j _ (by omega) (List.getElem?_eq_getElem hj)
    repeat' (first
    | with_reducible refine WL.nil ?_
    | with_reducible refine WQ.thenN ?_
    | with_reducible refine WQ.code ?_
    | with_reducible refine WC.seq ?_
    | with_reducible refine WC.region ?_
    | ((with_reducible refine WL.isN_move ?_); first | refine WL.yld rfl (Yld.pure rfl nrmQ) ?_)
    | ((with_reducible refine WL.isN_assign ?_); first | refine WL.yld rfl (Yld.pure rfl nrmQ) ?_)
    | ((with_reducible refine WL.isN_bin ?_); first | refine WL.yld rfl (Yld.pure rfl nrmQ) ?_ | refine WL.yld rfl (Yld.rem rfl rfl rfl rfl (by omega) (by omega)) ?_ | refine WL.yld rfl (Yld.quo rfl rfl rfl rfl (by omega) (by omega) nrmQ) ?_ | refine WL.yld rfl (Yld.eqlB rfl rfl rfl rfl) ?_ | refine WL.yld rfl (Yld.neqB rfl rfl rfl rfl) ?_ | refine WL.yld rfl (Yld.eqlA 4 rfl rfl rfl (by kernel_rfl) (by kernel_rfl) rfl rfl) ?_ | refine WL.yld rfl (Yld.neqA 4 rfl rfl rfl (by kernel_rfl) (by kernel_rfl) rfl rfl) ?_ | refine WL.yld rfl (Yld.quoT rfl rfl rfl rfl (by omega) nrmQ) ?_)
    | ((with_reducible refine WL.isN_load ?_); first | refine WL.yld rfl (Yld.load rfl rfl rfl rfl cellQ) ?_ | refine WL.yld rfl (Yld.loadAgg rfl rfl rfl rfl rfl aggQ) ?_)
    | ((with_reducible refine WL.isN_faddr ?_); first | refine WL.yld rfl (Yld.fieldAddr rfl rfl rfl rfl rfl rfl rfl) ?_)
    | ((with_reducible refine WL.isN_iaddr ?_); first | refine WL.yld rfl (Yld.indexS 0 rfl rfl rfl rfl rfl rfl (by omega)) ?_ | refine WL.yld rfl (Yld.indexS 1 rfl rfl rfl rfl rfl rfl (by omega)) ?_ | refine WL.yld rfl (Yld.indexS 2 rfl rfl rfl rfl rfl rfl (by omega)) ?_ | refine WL.yld rfl (Yld.indexS _ rfl rfl rfl rfl rfl rfl (by omega)) ?_ | refine WL.yld rfl (Yld.indexA 0 rfl rfl rfl rfl rfl rfl (by omega)) ?_ | refine WL.yld rfl (Yld.indexA 1 rfl rfl rfl rfl rfl rfl (by omega)) ?_ | refine WL.yld rfl (Yld.indexA _ rfl rfl rfl rfl rfl rfl (by omega)) ?_)
    | ((with_reducible refine WL.isN_call ?_); first | refine WL.yld rfl (Yld.lenSlice rfl rfl rfl) ?_ | refine WL.yld rfl (Yld.lenStr rfl rfl rfl) ?_)
    | ((with_reducible refine WL.isN_box ?_); first | refine WL.step rfl (StepTo.boxA rfl rfl rfl rfl (fun _ => ?_)) | refine WL.step rfl (StepTo.box1 rfl rfl rfl rfl rfl (fun _ => ?_)))
    | with_reducible refine WC.block ?_
    | with_reducible refine WC.scope ?_
    | with_reducible refine WC.label ?_
    | with_reducible refine WQ.ngN ?_
    | with_reducible refine WQ.ngR ?_
    | with_reducible refine WQ.ngX ?_
    | with_reducible refine WC.skip ?_
    | with_reducible refine WC.ret ?_
    | with_reducible refine WC.exit ?_
    | with_reducible refine WQ.thenR ?_
    | with_reducible refine WQ.thenX ?_
    | with_reducible refine WQ.blkN ?_
    | with_reducible refine WQ.blkR ?_
    | ((with_reducible refine WQ.blkX ?_ ?_); focus rfl)
    | ((with_reducible refine WQ.blkY ?_ ?_); focus rfl)
    | refine WC.condT rfl ?_
    | refine WC.condF rfl ?_
    | refine WC.condTh rfl gdQ ?_
    | refine WC.condFh rfl gdQ ?_
    | (refine WC.cond rfl (fun hc => ?_) (fun hc => ?_) <;> (try first | (with_reducible replace hc := of_decide_eq_true hc) | (with_reducible replace hc := of_decide_eq_false hc) | (with_reducible replace hc := eqT hc) | (with_reducible replace hc := eqF hc) | (with_reducible replace hc := neT hc) | (with_reducible replace hc := neF hc) | (with_reducible replace hc := noT hc) | (with_reducible replace hc := noF hc)) <;> (try (exfalso; omega))))
    exact WQ.body (Reads.tmp rfl rfl) fun w' hw' => ⟨by unfold findI find; rw [he, if_neg (by omega)], hw'.ext.below⟩
end Go.Proofs.Ytdfpfnofaiobgaa
