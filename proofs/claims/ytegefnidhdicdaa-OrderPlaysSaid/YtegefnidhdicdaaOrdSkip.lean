/- 'Skip' of the package order: what is behind is struck out, and what follows is told. -/
import Derived.Test.YtegefnidhdicdaaOrdSum
import Derived.Test.YtegefnidhdicdaaDel
namespace Go.Proofs.Ytegefnidhdicdaa
open Go.RowKit
set_option linter.unusedVariables false

def U16M (x : Msg) : Prop := 0 ≤ x.stream ∧ x.stream ≤ 65535
def mv (x : Msg) : Value := .agg #[.int .u32 x.first, .bool x.free, .int .u16 x.stream, .int .u16 x.ssn, .int .u32 x.ppid, .string x.text]
theorem own_cap {w : World} {base e k n c : Nat} {A : Option Addr} {xs : List Value} (h : w.ownsRow base e k (.slice A n c) n xs) : n ≤ c := by
  rcases h.2 with ⟨h0, h1⟩ | ⟨g, cap, cur, hv, _, _, h2, _⟩
  · cases h0; exact Nat.le_refl _
  · simp only [Value.slice.injEq] at hv
    obtain ⟨_, _, rfl⟩ := hv
    exact h2
theorem WC.capRow {P : Program} {w0 : World} {D : Nat → Prop} {n : Nat} {Q : Exit → Act → World → Prop} {τ : Tm} {H : List Item} {x : Code} (i : Nat) {A : Option Addr} {m c t k : Nat} {xs : List Value} (hi : H[i]? = some (.row A m c t k xs)) (h : m ≤ c → WC P w0 D n x Q τ H) : WC P w0 D n x Q τ H :=
  ⟨fun a w ha hw => (h (own_cap (hw.holds _ (List.mem_of_getElem? hi)))).go a w ha hw⟩
theorem take_snoc {α : Type} {xs : List α} {i : Nat} {x : α} (h : xs[i]? = some x) : xs.take (i + 1) = xs.take i ++ [x] := by rw [List.take_add_one, h]; rfl
/-- A function value that tells of each message whether it is struck out, whatever was written into the blocks D. -/
def PredC (P : Program) (f : FuncId) (caps : List Value) (p : Msg → Bool) (D : Nat → Prop) (w : World) : Prop :=
  ∀ w', Ext D w w' → ∀ x : Msg, U16M x → Calls P f (mv x :: caps).toArray w' fun e w'' => e = .returned (.bool (p x)) ∧ Below w'.heap.size w' w''
theorem late_c (n nx : Int) (w : World) : Calls Try.prog 24 #[.int .u16 n, .int .u16 nx] w fun e w' => e = .returned (.bool (lateB n nx)) ∧ Below w.heap.size w w' :=
  (late_any n nx w).mono fun e w' ⟨h1, h2⟩ => ⟨h1, h2 ▸ Below.refl _ _⟩
theorem skip1_q (a b : Nat) (s to : Int) (m : Msg) (w : World) (ha : w.cell? ⟨a, 0, none⟩ = some (.int .i64 s)) (hb : w.cell? ⟨b, 0, none⟩ = some (.int .u16 to)) (hm : U16M m) :
    Calls Try.prog 30 #[.agg #[.int .u32 m.first, .bool m.free, .int .u16 m.stream, .int .u16 m.ssn, .int .u32 m.ppid, .string m.text], .pointer (some ⟨a, 0, none⟩), .pointer (some ⟨b, 0, none⟩)] w
      fun e w' => e = .returned (.bool (m.stream == s && lateB m.ssn to)) ∧ Below w.heap.size w w' := by
  obtain ⟨m0, m1⟩ := hm
  refine enterW (fun _ => False) _ Try.func30 rfl (by simp only [Try.ntmps30, List.length_cons, List.length_nil, Nat.reduceAdd, Nat.reduceSub]; rfl) ?_
  by_cases h1 : m.stream = s
  · repeat' (first
    | with_reducible refine WL.nil ?_
    | with_reducible refine WQ.thenN ?_
    | with_reducible refine WQ.code ?_
    | with_reducible refine WC.seq ?_
    | with_reducible refine WC.region ?_
    | ((with_reducible refine WL.isN_move ?_); first | refine WL.yld rfl (Yld.pure rfl nrmQ) ?_)
    | ((with_reducible refine WL.isN_assign ?_); first | refine WL.yld rfl (Yld.pure rfl nrmQ) ?_)
    | ((with_reducible refine WL.isN_bin ?_); first | refine WL.yld rfl (Yld.pure rfl nrmQ) ?_ | refine WL.yld rfl (Yld.rem rfl rfl rfl rfl (by omega) (by omega)) ?_ | refine WL.yld rfl (Yld.quo rfl rfl rfl rfl (by omega) (by omega) nrmQ) ?_ | refine WL.yld rfl (Yld.eqlB rfl rfl rfl rfl) ?_ | refine WL.yld rfl (Yld.neqB rfl rfl rfl rfl) ?_ | refine WL.yld rfl (Yld.eqlA 4 rfl rfl rfl (by kernel_rfl) (by kernel_rfl) rfl rfl) ?_ | refine WL.yld rfl (Yld.neqA 4 rfl rfl rfl (by kernel_rfl) (by kernel_rfl) rfl rfl) ?_ | refine WL.yld rfl (Yld.quoT rfl rfl rfl rfl (by omega) nrmQ) ?_)
    | ((with_reducible refine WL.isN_load ?_); first | refine WL.yld rfl (Yld.load rfl rfl rfl rfl (CellAt.inp ha)) ?_ | refine WL.yld rfl (Yld.load rfl rfl rfl rfl (CellAt.inp hb)) ?_ | refine WL.yld rfl (Yld.load rfl rfl rfl rfl cellQ) ?_ | refine WL.yld rfl (Yld.loadAgg rfl rfl rfl rfl rfl aggQ) ?_)
    | ((with_reducible refine WL.isN_faddr ?_); first | refine WL.yld rfl (Yld.fieldAddr rfl rfl rfl rfl rfl rfl rfl) ?_)
    | ((with_reducible refine WL.isN_conv ?_); first | refine WL.yld rfl (Yld.convInt rfl rfl rfl rfl nrmQ) ?_)
    | ((with_reducible refine WL.isN_pick ?_); first | refine WL.yld rfl (Yld.pickT rfl rfl rfl) ?_ | refine WL.yld rfl (Yld.pickF rfl rfl rfl) ?_ | refine WL.yld rfl (Yld.pickTh rfl rfl gdQ rfl) ?_ | refine WL.yld rfl (Yld.pickFh rfl rfl gdQ rfl) ?_ | refine WL.yld rfl (Yld.pickB rfl rfl rfl rfl) ?_)
    | ((with_reducible refine WL.isN_call ?_); first | refine WL.step rfl (StepTo.callV (v := .bool (lateB m.ssn to)) (us := [.int .u16 m.ssn, .int .u16 to]) rfl rfl rfl rfl rfl (by kernel_rfl) (fun w _ => late_c m.ssn to w) ?_))
    | ((with_reducible refine WL.isT ?_); first | refine WL.skipT rfl rfl rfl rfl gdQ ?_ | refine WL.skipU rfl rfl rfl rfl ?_ | refine WL.runT rfl rfl rfl gdQ ?_ | (refine WL.cases rfl rfl rfl (fun hg => ?_) (fun hg => ?_) <;> (try first | (with_reducible replace hg := of_decide_eq_true hg) | (with_reducible replace hg := of_decide_eq_false hg) | (with_reducible replace hg := eqT hg) | (with_reducible replace hg := eqF hg) | (with_reducible replace hg := neT hg) | (with_reducible replace hg := neF hg) | (with_reducible replace hg := noT hg) | (with_reducible replace hg := noF hg)) <;> (try (exfalso; omega))))
    | ((with_reducible refine WL.isF ?_); first | refine WL.skipF rfl rfl rfl rfl gdQ ?_ | refine WL.skipU rfl rfl rfl rfl ?_ | refine WL.runF rfl rfl rfl gdQ ?_ | (refine WL.cases rfl rfl rfl (fun hg => ?_) (fun hg => ?_) <;> (try first | (with_reducible replace hg := of_decide_eq_true hg) | (with_reducible replace hg := of_decide_eq_false hg) | (with_reducible replace hg := eqT hg) | (with_reducible replace hg := eqF hg) | (with_reducible replace hg := neT hg) | (with_reducible replace hg := neF hg) | (with_reducible replace hg := noT hg) | (with_reducible replace hg := noF hg)) <;> (try (exfalso; omega))))
    | ((with_reducible refine WL.isN_box ?_); first | refine WL.step rfl (StepTo.boxA rfl rfl rfl rfl (fun _ => ?_)) | refine WL.step rfl (StepTo.box1 rfl rfl rfl rfl rfl (fun _ => ?_)))
    | with_reducible refine WC.block ?_
    | with_reducible refine WC.scope ?_
    | with_reducible refine WC.label ?_
    | with_reducible refine WQ.ngN ?_
    | with_reducible refine WQ.ngR ?_
    | with_reducible refine WQ.ngX ?_
    | with_reducible refine WC.skip ?_
    | with_reducible refine WC.ret ?_
    | with_reducible refine WC.exit ?_
    | with_reducible refine WQ.thenR ?_
    | with_reducible refine WQ.thenX ?_
    | with_reducible refine WQ.blkN ?_
    | with_reducible refine WQ.blkR ?_
    | ((with_reducible refine WQ.blkX ?_ ?_); focus rfl)
    | ((with_reducible refine WQ.blkY ?_ ?_); focus rfl)
    | refine WC.condT rfl ?_
    | refine WC.condF rfl ?_
    | refine WC.condTh rfl gdQ ?_
    | refine WC.condFh rfl gdQ ?_
    | (refine WC.cond rfl (fun hc => ?_) (fun hc => ?_) <;> (try first | (with_reducible replace hc := of_decide_eq_true hc) | (with_reducible replace hc := of_decide_eq_false hc) | (with_reducible replace hc := eqT hc) | (with_reducible replace hc := eqF hc) | (with_reducible replace hc := neT hc) | (with_reducible replace hc := neF hc) | (with_reducible replace hc := noT hc) | (with_reducible replace hc := noF hc)) <;> (try (exfalso; omega))))
    exact WQ.body (Reads.tmp rfl rfl) fun w' hw' => ⟨by simp [h1], hw'.ext.below⟩
  · repeat' (first
    | with_reducible refine WL.nil ?_
    | with_reducible refine WQ.thenN ?_
    | with_reducible refine WQ.code ?_
    | with_reducible refine WC.seq ?_
    | with_reducible refine WC.region ?_
    | ((with_reducible refine WL.isN_move ?_); first | refine WL.yld rfl (Yld.pure rfl nrmQ) ?_)
    | ((with_reducible refine WL.isN_assign ?_); first | refine WL.yld rfl (Yld.pure rfl nrmQ) ?_)
    | ((with_reducible refine WL.isN_bin ?_); first | refine WL.yld rfl (Yld.pure rfl nrmQ) ?_ | refine WL.yld rfl (Yld.rem rfl rfl rfl rfl (by omega) (by omega)) ?_ | refine WL.yld rfl (Yld.quo rfl rfl rfl rfl (by omega) (by omega) nrmQ) ?_ | refine WL.yld rfl (Yld.eqlB rfl rfl rfl rfl) ?_ | refine WL.yld rfl (Yld.neqB rfl rfl rfl rfl) ?_ | refine WL.yld rfl (Yld.eqlA 4 rfl rfl rfl (by kernel_rfl) (by kernel_rfl) rfl rfl) ?_ | refine WL.yld rfl (Yld.neqA 4 rfl rfl rfl (by kernel_rfl) (by kernel_rfl) rfl rfl) ?_ | refine WL.yld rfl (Yld.quoT rfl rfl rfl rfl (by omega) nrmQ) ?_)
    | ((with_reducible refine WL.isN_load ?_); first | refine WL.yld rfl (Yld.load rfl rfl rfl rfl (CellAt.inp ha)) ?_ | refine WL.yld rfl (Yld.load rfl rfl rfl rfl cellQ) ?_ | refine WL.yld rfl (Yld.loadAgg rfl rfl rfl rfl rfl aggQ) ?_)
    | ((with_reducible refine WL.isN_faddr ?_); first | refine WL.yld rfl (Yld.fieldAddr rfl rfl rfl rfl rfl rfl rfl) ?_)
    | ((with_reducible refine WL.isN_conv ?_); first | refine WL.yld rfl (Yld.convInt rfl rfl rfl rfl nrmQ) ?_)
    | ((with_reducible refine WL.isN_pick ?_); first | refine WL.yld rfl (Yld.pickT rfl rfl rfl) ?_ | refine WL.yld rfl (Yld.pickF rfl rfl rfl) ?_ | refine WL.yld rfl (Yld.pickTh rfl rfl gdQ rfl) ?_ | refine WL.yld rfl (Yld.pickFh rfl rfl gdQ rfl) ?_ | refine WL.yld rfl (Yld.pickB rfl rfl rfl rfl) ?_)
    | ((with_reducible refine WL.isT ?_); first | refine WL.skipT rfl rfl rfl rfl gdQ ?_ | refine WL.skipU rfl rfl rfl rfl ?_ | refine WL.runT rfl rfl rfl gdQ ?_ | (refine WL.cases rfl rfl rfl (fun hg => ?_) (fun hg => ?_) <;> (try first | (with_reducible replace hg := of_decide_eq_true hg) | (with_reducible replace hg := of_decide_eq_false hg) | (with_reducible replace hg := eqT hg) | (with_reducible replace hg := eqF hg) | (with_reducible replace hg := neT hg) | (with_reducible replace hg := neF hg) | (with_reducible replace hg := noT hg) | (with_reducible replace hg := noF hg)) <;> (try (exfalso; omega))))
    | ((with_reducible refine WL.isF ?_); first | refine WL.skipF rfl rfl rfl rfl gdQ ?_ | refine WL.skipU rfl rfl rfl rfl ?_ | refine WL.runF rfl rfl rfl gdQ ?_ | (refine WL.cases rfl rfl rfl (fun hg => ?_) (fun hg => ?_) <;> (try first | (with_reducible replace hg := of_decide_eq_true hg) | (with_reducible replace hg := of_decide_eq_false hg) | (with_reducible replace hg := eqT hg) | (with_reducible replace hg := eqF hg) | (with_reducible replace hg := neT hg) | (with_reducible replace hg := neF hg) | (with_reducible replace hg := noT hg) | (with_reducible replace hg := noF hg)) <;> (try (exfalso; omega))))
    | ((with_reducible refine WL.isN_box ?_); first | refine WL.step rfl (StepTo.boxA rfl rfl rfl rfl (fun _ => ?_)) | refine WL.step rfl (StepTo.box1 rfl rfl rfl rfl rfl (fun _ => ?_)))
    | with_reducible refine WC.block ?_
    | with_reducible refine WC.scope ?_
    | with_reducible refine WC.label ?_
    | with_reducible refine WQ.ngN ?_
    | with_reducible refine WQ.ngR ?_
    | with_reducible refine WQ.ngX ?_
    | with_reducible refine WC.skip ?_
    | with_reducible refine WC.ret ?_
    | with_reducible refine WC.exit ?_
    | with_reducible refine WQ.thenR ?_
    | with_reducible refine WQ.thenX ?_
    | with_reducible refine WQ.blkN ?_
    | with_reducible refine WQ.blkR ?_
    | ((with_reducible refine WQ.blkX ?_ ?_); focus rfl)
    | ((with_reducible refine WQ.blkY ?_ ?_); focus rfl)
    | refine WC.condT rfl ?_
    | refine WC.condF rfl ?_
    | refine WC.condTh rfl gdQ ?_
    | refine WC.condFh rfl gdQ ?_
    | (refine WC.cond rfl (fun hc => ?_) (fun hc => ?_) <;> (try first | (with_reducible replace hc := of_decide_eq_true hc) | (with_reducible replace hc := of_decide_eq_false hc) | (with_reducible replace hc := eqT hc) | (with_reducible replace hc := eqF hc) | (with_reducible replace hc := neT hc) | (with_reducible replace hc := neF hc) | (with_reducible replace hc := noT hc) | (with_reducible replace hc := noF hc)) <;> (try (exfalso; omega))))
    exact WQ.body (Reads.tmp rfl rfl) fun w' hw' => ⟨by simp [h1], hw'.ext.below⟩

theorem findP_take {p : Msg → Bool} {xs : List Msg} {i : Nat} {m : Msg} (hm : xs[i]? = some m) (hall : ∀ (j : Nat) x, j < i → xs[j]? = some x → p x = false) (hp : p m = true) : xs.findIdx p = i := by
  obtain ⟨hi, rfl⟩ := List.getElem?_eq_some_iff.1 hm
  exact (List.findIdx_eq hi).2 ⟨hp, fun j hj => by
    have := hall j _ hj (List.getElem?_eq_getElem (by omega))
    simp [this]⟩
/-- 'IndexFunc': the first message that is struck out, or -1. -/
theorem index_q (A : Option Addr) (n c : Nat) (xs : List Msg) (f : FuncId) (caps : List Value) (p : Msg → Bool) (w : World) (hL : Ms w w.heap.size A n xs) (hx : ∀ x ∈ xs, U16M x) (hn : n ≤ 1000000) (hp : PredC Try.prog f caps p (fun _ => False) w) (hB : callsB Try.prog f = true) :
    Calls Try.prog 34 #[.slice A n c, .func (.func f) #[] caps.toArray] w
      fun e w' => e = .returned (.int .i64 (if xs.findIdx p < n then ((xs.findIdx p : Nat) : Int) else -1)) ∧ Below w.heap.size w w' := by
  have hl := hL.len
  refine enterW (fun _ => False) _ Try.func34 rfl (by simp only [Try.ntmps34, List.length_cons, List.length_nil, Nat.reduceAdd, Nat.reduceSub]; rfl) ?_
  refine WC.addVw Msg.cs_len hL ?_
  repeat' (first
    | with_reducible refine WL.nil ?_
    | with_reducible refine WQ.thenN ?_
    | with_reducible refine WQ.code ?_
    | with_reducible refine WC.seq ?_
    | with_reducible refine WC.region ?_
    | ((with_reducible refine WL.isN_move ?_); first | refine WL.yld rfl (Yld.pure rfl nrmQ) ?_)
    | ((with_reducible refine WL.isN_assign ?_); first | refine WL.yld rfl (Yld.pure rfl nrmQ) ?_)
    | ((with_reducible refine WL.isN_bin ?_); first | refine WL.yld rfl (Yld.pure rfl nrmQ) ?_ | refine WL.yld rfl (Yld.rem rfl rfl rfl rfl (by omega) (by omega)) ?_ | refine WL.yld rfl (Yld.quo rfl rfl rfl rfl (by omega) (by omega) nrmQ) ?_ | refine WL.yld rfl (Yld.eqlB rfl rfl rfl rfl) ?_ | refine WL.yld rfl (Yld.neqB rfl rfl rfl rfl) ?_ | refine WL.yld rfl (Yld.eqlA 4 rfl rfl rfl (by kernel_rfl) (by kernel_rfl) rfl rfl) ?_ | refine WL.yld rfl (Yld.neqA 4 rfl rfl rfl (by kernel_rfl) (by kernel_rfl) rfl rfl) ?_ | refine WL.yld rfl (Yld.quoT rfl rfl rfl rfl (by omega) nrmQ) ?_)
    | ((with_reducible refine WL.isN_load ?_); first | refine WL.yld rfl (Yld.load rfl rfl rfl rfl cellQ) ?_ | refine WL.yld rfl (Yld.loadAgg rfl rfl rfl rfl rfl aggQ) ?_)
    | ((with_reducible refine WL.isN_iaddr ?_); first | refine WL.yld rfl (Yld.indexS 0 rfl rfl rfl rfl rfl rfl (by omega)) ?_ | refine WL.yld rfl (Yld.indexS 1 rfl rfl rfl rfl rfl rfl (by omega)) ?_ | refine WL.yld rfl (Yld.indexS 2 rfl rfl rfl rfl rfl rfl (by omega)) ?_ | refine WL.yld rfl (Yld.indexS _ rfl rfl rfl rfl rfl rfl (by omega)) ?_ | refine WL.yld rfl (Yld.indexA 0 rfl rfl rfl rfl rfl rfl (by omega)) ?_ | refine WL.yld rfl (Yld.indexA 1 rfl rfl rfl rfl rfl rfl (by omega)) ?_ | refine WL.yld rfl (Yld.indexA _ rfl rfl rfl rfl rfl rfl (by omega)) ?_)
    | ((with_reducible refine WL.isN_call ?_); first | refine WL.yld rfl (Yld.lenSlice rfl rfl rfl) ?_ | refine WL.yld rfl (Yld.lenStr rfl rfl rfl) ?_)
    | with_reducible refine WC.block ?_
    | with_reducible refine WC.scope ?_
    | with_reducible refine WC.label ?_
    | with_reducible refine WQ.ngN ?_
    | with_reducible refine WQ.ngR ?_
    | with_reducible refine WQ.ngX ?_
    | with_reducible refine WC.skip ?_
    | with_reducible refine WC.ret ?_
    | with_reducible refine WC.exit ?_
    | with_reducible refine WQ.thenR ?_
    | with_reducible refine WQ.thenX ?_
    | with_reducible refine WQ.blkN ?_
    | with_reducible refine WQ.blkR ?_
    | ((with_reducible refine WQ.blkX ?_ ?_); focus rfl)
    | ((with_reducible refine WQ.blkY ?_ ?_); focus rfl)
    | refine WC.condT rfl ?_
    | refine WC.condF rfl ?_
    | refine WC.condTh rfl gdQ ?_
    | refine WC.condFh rfl gdQ ?_
    | (refine WC.cond rfl (fun hc => ?_) (fun hc => ?_) <;> (try first | (with_reducible replace hc := of_decide_eq_true hc) | (with_reducible replace hc := of_decide_eq_false hc) | (with_reducible replace hc := eqT hc) | (with_reducible replace hc := eqF hc) | (with_reducible replace hc := neT hc) | (with_reducible replace hc := neF hc) | (with_reducible replace hc := noT hc) | (with_reducible replace hc := noF hc)) <;> (try (exfalso; omega))))
  refine WC.loop (fun mm τ H => ∃ i : Nat, i ≤ n ∧ mm = n - i ∧ (∀ (j : Nat) x, j < i → xs[j]? = some x → p x = false) ∧
      τ = [(0, .slice A n c), (1, .func (.func f) #[] caps.toArray), (7, .int .i64 n), (8, .int .i64 i)] ∧ H = [.vw A n 6 (flat Msg.cs xs)])
    n _ _ [0] ?_ ?_ ⟨0, by omega, rfl, fun j x hj => absurd hj (by omega), rfl, rfl⟩ ?_
  · exact (by repeat (first | exact Sub.nil | refine Sub.cons rfl ?_ | refine Sub.consE rfl (int_eq (by omega)) ?_))
  · exact ⟨by decide, rfl⟩
  rintro mm τ H ⟨i, hi, rfl, hall, rfl, rfl⟩
  by_cases hlt : i < n
  · obtain ⟨m, hm⟩ : ∃ m, xs[i]? = some m := ⟨_, List.getElem?_eq_getElem (by omega)⟩
    have hpm : PartAt (flat Msg.cs xs) (i * 6) m.cs := PartAt.flat Msg.cs_len hm
    have hum := hx m (List.mem_of_getElem? hm)
    refine WC.vwAt 0 rfl (by omega) fun b off hA => ?_
    subst hA
    cases hpx : p m with
    | true =>
      have he := findP_take hm hall hpx
      repeat' (first
    | with_reducible refine WL.nil ?_
    | with_reducible refine WQ.thenN ?_
    | with_reducible refine WQ.code ?_
    | with_reducible refine WC.seq ?_
    | with_reducible refine WC.region ?_
    | ((with_reducible refine WL.isN_move ?_); first | refine WL.yld rfl (Yld.pure rfl nrmQ) ?_)
    | ((with_reducible refine WL.isN_assign ?_); first | refine WL.yld rfl (Yld.pure rfl nrmQ) ?_)
    | ((with_reducible refine WL.isN_bin ?_); first | refine WL.yld rfl (Yld.pure rfl nrmQ) ?_ | refine WL.yld rfl (Yld.rem rfl rfl rfl rfl (by omega) (by omega)) ?_ | refine WL.yld rfl (Yld.quo rfl rfl rfl rfl (by omega) (by omega) nrmQ) ?_ | refine WL.yld rfl (Yld.eqlB rfl rfl rfl rfl) ?_ | refine WL.yld rfl (Yld.neqB rfl rfl rfl rfl) ?_ | refine WL.yld rfl (Yld.eqlA 4 rfl rfl rfl (by kernel_rfl) (by kernel_rfl) rfl rfl) ?_ | refine WL.yld rfl (Yld.neqA 4 rfl rfl rfl (by kernel_rfl) (by kernel_rfl) rfl rfl) ?_ | refine WL.yld rfl (Yld.quoT rfl rfl rfl rfl (by omega) nrmQ) ?_)
    | ((with_reducible refine WL.isN_load ?_); first | refine WL.yld rfl (Yld.load rfl rfl rfl rfl cellQ) ?_ | refine WL.yld rfl (Yld.loadAgg rfl rfl rfl rfl rfl aggQ) ?_)
    | ((with_reducible refine WL.isN_iaddr ?_); first | refine WL.yld rfl (Yld.indexS 0 rfl rfl rfl rfl rfl rfl (by omega)) ?_ | refine WL.yld rfl (Yld.indexS 1 rfl rfl rfl rfl rfl rfl (by omega)) ?_ | refine WL.yld rfl (Yld.indexS 2 rfl rfl rfl rfl rfl rfl (by omega)) ?_ | refine WL.yld rfl (Yld.indexS _ rfl rfl rfl rfl rfl rfl (by omega)) ?_ | refine WL.yld rfl (Yld.indexA 0 rfl rfl rfl rfl rfl rfl (by omega)) ?_ | refine WL.yld rfl (Yld.indexA 1 rfl rfl rfl rfl rfl rfl (by omega)) ?_ | refine WL.yld rfl (Yld.indexA _ rfl rfl rfl rfl rfl rfl (by omega)) ?_)
    | ((with_reducible refine WL.isN_call ?_); first | refine WL.step rfl (StepTo.callV (v := .bool true) (us := mv m :: caps) rfl rfl rfl rfl rfl hB (fun w' hw' => hpx ▸ hp w' hw'.ext m hum) ?_) | refine WL.yld rfl (Yld.lenSlice rfl rfl rfl) ?_ | refine WL.yld rfl (Yld.lenStr rfl rfl rfl) ?_)
    | with_reducible refine WC.block ?_
    | with_reducible refine WC.scope ?_
    | with_reducible refine WC.label ?_
    | with_reducible refine WQ.ngN ?_
    | with_reducible refine WQ.ngR ?_
    | with_reducible refine WQ.ngX ?_
    | with_reducible refine WC.skip ?_
    | with_reducible refine WC.ret ?_
    | with_reducible refine WC.exit ?_
    | with_reducible refine WQ.thenR ?_
    | with_reducible refine WQ.thenX ?_
    | with_reducible refine WQ.blkN ?_
    | with_reducible refine WQ.blkR ?_
    | ((with_reducible refine WQ.blkX ?_ ?_); focus rfl)
    | ((with_reducible refine WQ.blkY ?_ ?_); focus rfl)
    | refine WC.condT rfl ?_
    | refine WC.condF rfl ?_
    | refine WC.condTh rfl gdQ ?_
    | refine WC.condFh rfl gdQ ?_
    | (refine WC.cond rfl (fun hc => ?_) (fun hc => ?_) <;> (try first | (with_reducible replace hc := of_decide_eq_true hc) | (with_reducible replace hc := of_decide_eq_false hc) | (with_reducible replace hc := eqT hc) | (with_reducible replace hc := eqF hc) | (with_reducible replace hc := neT hc) | (with_reducible replace hc := neF hc) | (with_reducible replace hc := noT hc) | (with_reducible replace hc := noF hc)) <;> (try (exfalso; omega))))
      exact WQ.body (Reads.tmp rfl rfl) fun w' hw' => ⟨by rw [he, if_pos hlt], hw'.ext.below⟩
    | false =>
      repeat' (first
    | with_reducible refine WL.nil ?_
    | with_reducible refine WQ.thenN ?_
    | with_reducible refine WQ.code ?_
    | with_reducible refine WC.seq ?_
    | with_reducible refine WC.region ?_
    | ((with_reducible refine WL.isN_move ?_); first | refine WL.yld rfl (Yld.pure rfl nrmQ) ?_)
    | ((with_reducible refine WL.isN_assign ?_); first | refine WL.yld rfl (Yld.pure rfl nrmQ) ?_)
    | ((with_reducible refine WL.isN_bin ?_); first | refine WL.yld rfl (Yld.pure rfl nrmQ) ?_ | refine WL.yld rfl (Yld.rem rfl rfl rfl rfl (by omega) (by omega)) ?_ | refine WL.yld rfl (Yld.quo rfl rfl rfl rfl (by omega) (by omega) nrmQ) ?_ | refine WL.yld rfl (Yld.eqlB rfl rfl rfl rfl) ?_ | refine WL.yld rfl (Yld.neqB rfl rfl rfl rfl) ?_ | refine WL.yld rfl (Yld.eqlA 4 rfl rfl rfl (by kernel_rfl) (by kernel_rfl) rfl rfl) ?_ | refine WL.yld rfl (Yld.neqA 4 rfl rfl rfl (by kernel_rfl) (by kernel_rfl) rfl rfl) ?_ | refine WL.yld rfl (Yld.quoT rfl rfl rfl rfl (by omega) nrmQ) ?_)
    | ((with_reducible refine WL.isN_load ?_); first | refine WL.yld rfl (Yld.load rfl rfl rfl rfl cellQ) ?_ | refine WL.yld rfl (Yld.loadAgg rfl rfl rfl rfl rfl aggQ) ?_)
    | ((with_reducible refine WL.isN_iaddr ?_); first | refine WL.yld rfl (Yld.indexS 0 rfl rfl rfl rfl rfl rfl (by omega)) ?_ | refine WL.yld rfl (Yld.indexS 1 rfl rfl rfl rfl rfl rfl (by omega)) ?_ | refine WL.yld rfl (Yld.indexS 2 rfl rfl rfl rfl rfl rfl (by omega)) ?_ | refine WL.yld rfl (Yld.indexS _ rfl rfl rfl rfl rfl rfl (by omega)) ?_ | refine WL.yld rfl (Yld.indexA 0 rfl rfl rfl rfl rfl rfl (by omega)) ?_ | refine WL.yld rfl (Yld.indexA 1 rfl rfl rfl rfl rfl rfl (by omega)) ?_ | refine WL.yld rfl (Yld.indexA _ rfl rfl rfl rfl rfl rfl (by omega)) ?_)
    | ((with_reducible refine WL.isN_call ?_); first | refine WL.step rfl (StepTo.callV (v := .bool false) (us := mv m :: caps) rfl rfl rfl rfl rfl hB (fun w' hw' => hpx ▸ hp w' hw'.ext m hum) ?_) | refine WL.yld rfl (Yld.lenSlice rfl rfl rfl) ?_ | refine WL.yld rfl (Yld.lenStr rfl rfl rfl) ?_)
    | with_reducible refine WC.block ?_
    | with_reducible refine WC.scope ?_
    | with_reducible refine WC.label ?_
    | with_reducible refine WQ.ngN ?_
    | with_reducible refine WQ.ngR ?_
    | with_reducible refine WQ.ngX ?_
    | with_reducible refine WC.skip ?_
    | with_reducible refine WC.ret ?_
    | with_reducible refine WC.exit ?_
    | with_reducible refine WQ.thenR ?_
    | with_reducible refine WQ.thenX ?_
    | with_reducible refine WQ.blkN ?_
    | with_reducible refine WQ.blkR ?_
    | ((with_reducible refine WQ.blkX ?_ ?_); focus rfl)
    | ((with_reducible refine WQ.blkY ?_ ?_); focus rfl)
    | refine WC.condT rfl ?_
    | refine WC.condF rfl ?_
    | refine WC.condTh rfl gdQ ?_
    | refine WC.condFh rfl gdQ ?_
    | (refine WC.cond rfl (fun hc => ?_) (fun hc => ?_) <;> (try first | (with_reducible replace hc := of_decide_eq_true hc) | (with_reducible replace hc := of_decide_eq_false hc) | (with_reducible replace hc := eqT hc) | (with_reducible replace hc := eqF hc) | (with_reducible replace hc := neT hc) | (with_reducible replace hc := neF hc) | (with_reducible replace hc := noT hc) | (with_reducible replace hc := noF hc)) <;> (try (exfalso; omega))))
      exact WQ.rnd (n - (i + 1)) _ _ [0] (by repeat (first | exact Sub.nil | refine Sub.cons rfl ?_ | refine Sub.consE rfl (int_eq (by omega)) ?_)) ⟨by decide, rfl⟩ (by omega) ⟨i + 1, by omega, rfl, fun j x hj hx' => by
        by_cases e : j = i
        · subst e
          rw [hm] at hx'
          injection hx' with hx'
          subst hx'
          exact hpx
        · exact hall j x (by omega) hx', rfl, rfl⟩
  · have he : xs.findIdx p = xs.length := List.findIdx_eq_length.2 fun x hx' => by
      obtain ⟨j, hj, rfl⟩ := List.getElem_of_mem hx'
      exact hall j _ (by omega) (List.getElem?_eq_getElem hj)
    repeat' (first
    | with_reducible refine WL.nil ?_
    | with_reducible refine WQ.thenN ?_
    | with_reducible refine WQ.code ?_
    | with_reducible refine WC.seq ?_
    | with_reducible refine WC.region ?_
    | ((with_reducible refine WL.isN_move ?_); first | refine WL.yld rfl (Yld.pure rfl nrmQ) ?_)
    | ((with_reducible refine WL.isN_assign ?_); first | refine WL.yld rfl (Yld.pure rfl nrmQ) ?_)
    | ((with_reducible refine WL.isN_bin ?_); first | refine WL.yld rfl (Yld.pure rfl nrmQ) ?_ | refine WL.yld rfl (Yld.rem rfl rfl rfl rfl (by omega) (by omega)) ?_ | refine WL.yld rfl (Yld.quo rfl rfl rfl rfl (by omega) (by omega) nrmQ) ?_ | refine WL.yld rfl (Yld.eqlB rfl rfl rfl rfl) ?_ | refine WL.yld rfl (Yld.neqB rfl rfl rfl rfl) ?_ | refine WL.yld rfl (Yld.eqlA 4 rfl rfl rfl (by kernel_rfl) (by kernel_rfl) rfl rfl) ?_ | refine WL.yld rfl (Yld.neqA 4 rfl rfl rfl (by kernel_rfl) (by kernel_rfl) rfl rfl) ?_ | refine WL.yld rfl (Yld.quoT rfl rfl rfl rfl (by omega) nrmQ) ?_)
    | ((with_reducible refine WL.isN_load ?_); first | refine WL.yld rfl (Yld.load rfl rfl rfl rfl cellQ) ?_ | refine WL.yld rfl (Yld.loadAgg rfl rfl rfl rfl rfl aggQ) ?_)
    | ((with_reducible refine WL.isN_iaddr ?_); first | refine WL.yld rfl (Yld.indexS 0 rfl rfl rfl rfl rfl rfl (by omega)) ?_ | refine WL.yld rfl (Yld.indexS 1 rfl rfl rfl rfl rfl rfl (by omega)) ?_ | refine WL.yld rfl (Yld.indexS 2 rfl rfl rfl rfl rfl rfl (by omega)) ?_ | refine WL.yld rfl (Yld.indexS _ rfl rfl rfl rfl rfl rfl (by omega)) ?_ | refine WL.yld rfl (Yld.indexA 0 rfl rfl rfl rfl rfl rfl (by omega)) ?_ | refine WL.yld rfl (Yld.indexA 1 rfl rfl rfl rfl rfl rfl (by omega)) ?_ | refine WL.yld rfl (Yld.indexA _ rfl rfl rfl rfl rfl rfl (by omega)) ?_)
    | ((with_reducible refine WL.isN_call ?_); first | refine WL.yld rfl (Yld.lenSlice rfl rfl rfl) ?_ | refine WL.yld rfl (Yld.lenStr rfl rfl rfl) ?_)
    | with_reducible refine WC.block ?_
    | with_reducible refine WC.scope ?_
    | with_reducible refine WC.label ?_
    | with_reducible refine WQ.ngN ?_
    | with_reducible refine WQ.ngR ?_
    | with_reducible refine WQ.ngX ?_
    | with_reducible refine WC.skip ?_
    | with_reducible refine WC.ret ?_
    | with_reducible refine WC.exit ?_
    | with_reducible refine WQ.thenR ?_
    | with_reducible refine WQ.thenX ?_
    | with_reducible refine WQ.blkN ?_
    | with_reducible refine WQ.blkR ?_
    | ((with_reducible refine WQ.blkX ?_ ?_); focus rfl)
    | ((with_reducible refine WQ.blkY ?_ ?_); focus rfl)
    | refine WC.condT rfl ?_
    | refine WC.condF rfl ?_
    | refine WC.condTh rfl gdQ ?_
    | refine WC.condFh rfl gdQ ?_
    | (refine WC.cond rfl (fun hc => ?_) (fun hc => ?_) <;> (try first | (with_reducible replace hc := of_decide_eq_true hc) | (with_reducible replace hc := of_decide_eq_false hc) | (with_reducible replace hc := eqT hc) | (with_reducible replace hc := eqF hc) | (with_reducible replace hc := neT hc) | (with_reducible replace hc := neF hc) | (with_reducible replace hc := noT hc) | (with_reducible replace hc := noF hc)) <;> (try (exfalso; omega))))
    exact WQ.body (Reads.tmp rfl rfl) fun w' hw' => ⟨by rw [he, if_neg (by omega)], hw'.ext.below⟩

theorem Ext.then0 {D : Nat → Prop} {w w' w'' : World} (h : Ext D w w') (h' : Ext (fun _ => False) w' w'') : Ext D w w'' :=
  ⟨h'.os.trans h.os, h'.tape.trans h.tape, h'.output.trans h.output, Nat.le_trans h.size h'.size, fun k hk hd => (h'.block k (Nat.lt_of_lt_of_le hk h.size) id).trans (h.block k hk hd)⟩
theorem PredC.at {P : Program} {f : FuncId} {caps : List Value} {p : Msg → Bool} {D : Nat → Prop} {w w' : World} (h : PredC P f caps p D w) (hw : Ext D w w') : PredC P f caps p (fun _ => False) w' :=
  fun w'' h' x hx => h w'' (hw.then0 h') x hx
theorem PredC.mono {P : Program} {f : FuncId} {caps : List Value} {p : Msg → Bool} {D D' : Nat → Prop} {w : World} (h : PredC P f caps p D' w) (hd : ∀ b, D b → D' b) : PredC P f caps p D w :=
  fun w' h' x hx => h w' ⟨h'.os, h'.tape, h'.output, h'.size, fun k hk hn => h'.block k hk fun hb => hn (hd k hb)⟩ x hx
theorem filter_take {p : Msg → Bool} {xs : List Msg} {j : Nat} {m : Msg} (hm : xs[j]? = some m) : (xs.take (j + 1)).filter (fun x => !p x) = (xs.take j).filter (fun x => !p x) ++ (if p m then [] else [m]) := by
  rw [List.take_add_one, hm, List.filter_append]
  congr 1
  cases h : p m <;> simp [h]
set_option maxHeartbeats 4000000 in
/-- 'DeleteFunc': what is left, in the same row. -/
theorem delete_w (A : Option Addr) (n c : Nat) (xs : List Msg) (f : FuncId) (caps : List Value) (p : Msg → Bool) (w : World) (hS : Sat w (Bs [.row A n c 38 6 (flat Msg.cs xs)]) [.row A n c 38 6 (flat Msg.cs xs)] w) (hl : xs.length = n) (hx : ∀ x ∈ xs, U16M x) (hn : n ≤ 1000000)
    (hp : PredC Try.prog f caps p (Bs [.row A n c 38 6 (flat Msg.cs xs)]) w) (hB : callsB Try.prog f = true) :
    Calls Try.prog 29 #[.slice A n c, .func (.func f) #[] caps.toArray] w
      fun e w' => ∃ v N, e = .returned v ∧ (∃ k, k = (xs.filter fun x => !p x).length ∧ v = .slice A k c ∧ N = [.row A k c 38 6 (flat Msg.cs (xs.filter fun x => !p x))]) ∧ Mod (Bs [.row A n c 38 6 (flat Msg.cs xs)]) N w w' := by
  refine enterM _ _ hS Try.func29 rfl (by simp only [Try.ntmps29, List.length_cons, List.length_nil, Nat.reduceAdd, Nat.reduceSub]; rfl) ?_
  by_cases hi0 : xs.findIdx p < n
  case neg =>
    have hnone : ∀ x ∈ xs, p x = false := List.findIdx_eq_length.1 (by have := List.findIdx_le_length (p := p) (xs := xs); omega)
    have hfil : xs.filter (fun x => !p x) = xs := List.filter_eq_self.2 fun x hx' => by simp [hnone x hx']
    rw [hfil]
    repeat' (first
    | with_reducible refine WL.nil ?_
    | with_reducible refine WQ.thenN ?_
    | with_reducible refine WQ.code ?_
    | with_reducible refine WC.seq ?_
    | with_reducible refine WC.region ?_
    | ((with_reducible refine WL.isN_move ?_); first | refine WL.yld rfl (Yld.pure rfl nrmQ) ?_)
    | ((with_reducible refine WL.isN_assign ?_); first | refine WL.yld rfl (Yld.pure rfl nrmQ) ?_)
    | ((with_reducible refine WL.isN_bin ?_); first | refine WL.yld rfl (Yld.pure rfl nrmQ) ?_ | refine WL.yld rfl (Yld.rem rfl rfl rfl rfl (by omega) (by omega)) ?_ | refine WL.yld rfl (Yld.quo rfl rfl rfl rfl (by omega) (by omega) nrmQ) ?_ | refine WL.yld rfl (Yld.eqlB rfl rfl rfl rfl) ?_ | refine WL.yld rfl (Yld.neqB rfl rfl rfl rfl) ?_ | refine WL.yld rfl (Yld.eqlA 4 rfl rfl rfl (by kernel_rfl) (by kernel_rfl) rfl rfl) ?_ | refine WL.yld rfl (Yld.neqA 4 rfl rfl rfl (by kernel_rfl) (by kernel_rfl) rfl rfl) ?_ | refine WL.yld rfl (Yld.quoT rfl rfl rfl rfl (by omega) nrmQ) ?_)
    | ((with_reducible refine WL.isN_un ?_); first | refine WL.yld rfl (Yld.pure rfl nrmQ) ?_)
    | ((with_reducible refine WL.isN_load ?_); first | refine WL.yld rfl (Yld.load rfl rfl rfl rfl cellQ) ?_ | refine WL.yld rfl (Yld.loadAgg rfl rfl rfl rfl rfl aggQ) ?_)
    | ((with_reducible refine WL.isN_iaddr ?_); first | refine WL.yld rfl (Yld.indexS 0 rfl rfl rfl rfl rfl rfl (by omega)) ?_ | refine WL.yld rfl (Yld.indexS 1 rfl rfl rfl rfl rfl rfl (by omega)) ?_ | refine WL.yld rfl (Yld.indexS 2 rfl rfl rfl rfl rfl rfl (by omega)) ?_ | refine WL.yld rfl (Yld.indexS _ rfl rfl rfl rfl rfl rfl (by omega)) ?_ | refine WL.yld rfl (Yld.indexA 0 rfl rfl rfl rfl rfl rfl (by omega)) ?_ | refine WL.yld rfl (Yld.indexA 1 rfl rfl rfl rfl rfl rfl (by omega)) ?_ | refine WL.yld rfl (Yld.indexA _ rfl rfl rfl rfl rfl rfl (by omega)) ?_)
    | ((with_reducible refine WL.isN_call ?_); first | refine WL.step rfl (StepTo.callV (v := .int .i64 (-1)) (us := [.slice A n c, .func (.func f) #[] caps.toArray]) rfl rfl rfl rfl rfl (by kernel_rfl) (fun w' hw' => (index_q A n c xs f caps p w' (hw'.lstRow 0 Msg.cs_len (by omega) rfl (by simp only [maxLen]; omega)) hx hn (hp.at hw'.ext) hB).mono fun e w2 ⟨h1, h2⟩ => ⟨by rw [h1, if_neg hi0], h2⟩) ?_) | refine WL.yld rfl (Yld.lenSlice rfl rfl rfl) ?_ | refine WL.yld rfl (Yld.lenStr rfl rfl rfl) ?_)
    | ((with_reducible refine WL.isN_alloc ?_); first | refine WL.step rfl (StepTo.allocA rfl rfl rfl rfl (fun _ => ?_)) | refine WL.step rfl (StepTo.alloc1 rfl rfl rfl rfl rfl (fun _ => ?_)))
    | ((with_reducible refine WL.isN_store ?_); first | refine WL.step rfl (StepTo.store1 0 rfl rfl rfl rfl rfl rfl rfl overQ setQ ?_) | refine WL.step rfl (StepTo.storeA 0 rfl rfl rfl rfl rfl rfl rfl rfl overQ setQ ?_) | refine WL.step rfl (StepTo.storeRow 0 rfl rfl rfl rfl rfl rfl rfl rfl (by omega) setQ ?_) | refine WL.step rfl (StepTo.store1 1 rfl rfl rfl rfl rfl rfl rfl overQ setQ ?_) | refine WL.step rfl (StepTo.storeA 1 rfl rfl rfl rfl rfl rfl rfl rfl overQ setQ ?_) | refine WL.step rfl (StepTo.storeRow 1 rfl rfl rfl rfl rfl rfl rfl rfl (by omega) setQ ?_) | refine WL.step rfl (StepTo.store1 2 rfl rfl rfl rfl rfl rfl rfl overQ setQ ?_) | refine WL.step rfl (StepTo.storeA 2 rfl rfl rfl rfl rfl rfl rfl rfl overQ setQ ?_) | refine WL.step rfl (StepTo.storeRow 2 rfl rfl rfl rfl rfl rfl rfl rfl (by omega) setQ ?_) | refine WL.step rfl (StepTo.store1 3 rfl rfl rfl rfl rfl rfl rfl overQ setQ ?_) | refine WL.step rfl (StepTo.storeA 3 rfl rfl rfl rfl rfl rfl rfl rfl overQ setQ ?_) | refine WL.step rfl (StepTo.storeRow 3 rfl rfl rfl rfl rfl rfl rfl rfl (by omega) setQ ?_) | refine WL.step rfl (StepTo.store1 4 rfl rfl rfl rfl rfl rfl rfl overQ setQ ?_) | refine WL.step rfl (StepTo.storeA 4 rfl rfl rfl rfl rfl rfl rfl rfl overQ setQ ?_) | refine WL.step rfl (StepTo.storeRow 4 rfl rfl rfl rfl rfl rfl rfl rfl (by omega) setQ ?_) | refine WL.step rfl (StepTo.store1 5 rfl rfl rfl rfl rfl rfl rfl overQ setQ ?_) | refine WL.step rfl (StepTo.storeA 5 rfl rfl rfl rfl rfl rfl rfl rfl overQ setQ ?_) | refine WL.step rfl (StepTo.storeRow 5 rfl rfl rfl rfl rfl rfl rfl rfl (by omega) setQ ?_) | refine WL.step rfl (StepTo.store1 6 rfl rfl rfl rfl rfl rfl rfl overQ setQ ?_) | refine WL.step rfl (StepTo.storeA 6 rfl rfl rfl rfl rfl rfl rfl rfl overQ setQ ?_) | refine WL.step rfl (StepTo.storeRow 6 rfl rfl rfl rfl rfl rfl rfl rfl (by omega) setQ ?_) | refine WL.step rfl (StepTo.store1 7 rfl rfl rfl rfl rfl rfl rfl overQ setQ ?_) | refine WL.step rfl (StepTo.storeA 7 rfl rfl rfl rfl rfl rfl rfl rfl overQ setQ ?_) | refine WL.step rfl (StepTo.storeRow 7 rfl rfl rfl rfl rfl rfl rfl rfl (by omega) setQ ?_) | refine WL.step rfl (StepTo.store1 8 rfl rfl rfl rfl rfl rfl rfl overQ setQ ?_) | refine WL.step rfl (StepTo.storeA 8 rfl rfl rfl rfl rfl rfl rfl rfl overQ setQ ?_) | refine WL.step rfl (StepTo.storeRow 8 rfl rfl rfl rfl rfl rfl rfl rfl (by omega) setQ ?_) | refine WL.step rfl (StepTo.store1 9 rfl rfl rfl rfl rfl rfl rfl overQ setQ ?_) | refine WL.step rfl (StepTo.storeA 9 rfl rfl rfl rfl rfl rfl rfl rfl overQ setQ ?_) | refine WL.step rfl (StepTo.storeRow 9 rfl rfl rfl rfl rfl rfl rfl rfl (by omega) setQ ?_) | refine WL.step rfl (StepTo.store1 10 rfl rfl rfl rfl rfl rfl rfl overQ setQ ?_) | refine WL.step rfl (StepTo.storeA 10 rfl rfl rfl rfl rfl rfl rfl rfl overQ setQ ?_) | refine WL.step rfl (StepTo.storeRow 10 rfl rfl rfl rfl rfl rfl rfl rfl (by omega) setQ ?_) | refine WL.step rfl (StepTo.store1 11 rfl rfl rfl rfl rfl rfl rfl overQ setQ ?_) | refine WL.step rfl (StepTo.storeA 11 rfl rfl rfl rfl rfl rfl rfl rfl overQ setQ ?_) | refine WL.step rfl (StepTo.storeRow 11 rfl rfl rfl rfl rfl rfl rfl rfl (by omega) setQ ?_))
    | with_reducible refine WC.block ?_
    | with_reducible refine WC.scope ?_
    | with_reducible refine WC.label ?_
    | with_reducible refine WQ.ngN ?_
    | with_reducible refine WQ.ngR ?_
    | with_reducible refine WQ.ngX ?_
    | with_reducible refine WC.skip ?_
    | with_reducible refine WC.ret ?_
    | with_reducible refine WC.exit ?_
    | with_reducible refine WQ.thenR ?_
    | with_reducible refine WQ.thenX ?_
    | with_reducible refine WQ.blkN ?_
    | with_reducible refine WQ.blkR ?_
    | ((with_reducible refine WQ.blkX ?_ ?_); focus rfl)
    | ((with_reducible refine WQ.blkY ?_ ?_); focus rfl)
    | refine WC.condT rfl ?_
    | refine WC.condF rfl ?_
    | refine WC.condTh rfl gdQ ?_
    | refine WC.condFh rfl gdQ ?_
    | (refine WC.cond rfl (fun hc => ?_) (fun hc => ?_) <;> (try first | (with_reducible replace hc := of_decide_eq_true hc) | (with_reducible replace hc := of_decide_eq_false hc) | (with_reducible replace hc := eqT hc) | (with_reducible replace hc := eqF hc) | (with_reducible replace hc := neT hc) | (with_reducible replace hc := neF hc) | (with_reducible replace hc := noT hc) | (with_reducible replace hc := noF hc)) <;> (try (exfalso; omega))))
    exact WQ.body (Reads.tmp rfl rfl) fun w' hw' => ⟨_, _, rfl, ⟨n, hl.symm, rfl, rfl⟩, hw'.toMod (by simp [Item.mine])⟩
  refine WC.rowAt 0 rfl (by omega) fun g hA => ?_
  subst hA
  repeat' (first
    | with_reducible refine WL.nil ?_
    | with_reducible refine WQ.thenN ?_
    | with_reducible refine WQ.code ?_
    | with_reducible refine WC.seq ?_
    | with_reducible refine WC.region ?_
    | ((with_reducible refine WL.isN_move ?_); first | refine WL.yld rfl (Yld.pure rfl nrmQ) ?_)
    | ((with_reducible refine WL.isN_assign ?_); first | refine WL.yld rfl (Yld.pure rfl nrmQ) ?_)
    | ((with_reducible refine WL.isN_bin ?_); first | refine WL.yld rfl (Yld.pure rfl nrmQ) ?_ | refine WL.yld rfl (Yld.rem rfl rfl rfl rfl (by omega) (by omega)) ?_ | refine WL.yld rfl (Yld.quo rfl rfl rfl rfl (by omega) (by omega) nrmQ) ?_ | refine WL.yld rfl (Yld.eqlB rfl rfl rfl rfl) ?_ | refine WL.yld rfl (Yld.neqB rfl rfl rfl rfl) ?_ | refine WL.yld rfl (Yld.eqlA 4 rfl rfl rfl (by kernel_rfl) (by kernel_rfl) rfl rfl) ?_ | refine WL.yld rfl (Yld.neqA 4 rfl rfl rfl (by kernel_rfl) (by kernel_rfl) rfl rfl) ?_ | refine WL.yld rfl (Yld.quoT rfl rfl rfl rfl (by omega) nrmQ) ?_)
    | ((with_reducible refine WL.isN_un ?_); first | refine WL.yld rfl (Yld.pure rfl nrmQ) ?_)
    | ((with_reducible refine WL.isN_load ?_); first | refine WL.yld rfl (Yld.load rfl rfl rfl rfl cellQ) ?_ | refine WL.yld rfl (Yld.loadAgg rfl rfl rfl rfl rfl aggQ) ?_)
    | ((with_reducible refine WL.isN_iaddr ?_); first | refine WL.yld rfl (Yld.indexS 0 rfl rfl rfl rfl rfl rfl (by omega)) ?_ | refine WL.yld rfl (Yld.indexS 1 rfl rfl rfl rfl rfl rfl (by omega)) ?_ | refine WL.yld rfl (Yld.indexS 2 rfl rfl rfl rfl rfl rfl (by omega)) ?_ | refine WL.yld rfl (Yld.indexS _ rfl rfl rfl rfl rfl rfl (by omega)) ?_ | refine WL.yld rfl (Yld.indexA 0 rfl rfl rfl rfl rfl rfl (by omega)) ?_ | refine WL.yld rfl (Yld.indexA 1 rfl rfl rfl rfl rfl rfl (by omega)) ?_ | refine WL.yld rfl (Yld.indexA _ rfl rfl rfl rfl rfl rfl (by omega)) ?_)
    | ((with_reducible refine WL.isN_call ?_); first | refine WL.step rfl (StepTo.callV (v := .int .i64 (xs.findIdx p : Nat)) (us := [.slice (some ⟨g, 0, none⟩) n c, .func (.func f) #[] caps.toArray]) rfl rfl rfl rfl rfl (by kernel_rfl) (fun w' hw' => (index_q _ n c xs f caps p w' (hw'.lstRow 0 Msg.cs_len (by omega) rfl (by simp only [maxLen]; omega)) hx hn (hp.at hw'.ext) hB).mono fun e w2 ⟨h1, h2⟩ => ⟨by rw [h1, if_pos hi0], h2⟩) ?_) | refine WL.yld rfl (Yld.lenSlice rfl rfl rfl) ?_ | refine WL.yld rfl (Yld.lenStr rfl rfl rfl) ?_)
    | ((with_reducible refine WL.isN_alloc ?_); first | refine WL.step rfl (StepTo.allocA rfl rfl rfl rfl (fun _ => ?_)) | refine WL.step rfl (StepTo.alloc1 rfl rfl rfl rfl rfl (fun _ => ?_)))
    | ((with_reducible refine WL.isN_store ?_); first | refine WL.step rfl (StepTo.store1 0 rfl rfl rfl rfl rfl rfl rfl overQ setQ ?_) | refine WL.step rfl (StepTo.storeA 0 rfl rfl rfl rfl rfl rfl rfl rfl overQ setQ ?_) | refine WL.step rfl (StepTo.storeRow 0 rfl rfl rfl rfl rfl rfl rfl rfl (by omega) setQ ?_) | refine WL.step rfl (StepTo.store1 1 rfl rfl rfl rfl rfl rfl rfl overQ setQ ?_) | refine WL.step rfl (StepTo.storeA 1 rfl rfl rfl rfl rfl rfl rfl rfl overQ setQ ?_) | refine WL.step rfl (StepTo.storeRow 1 rfl rfl rfl rfl rfl rfl rfl rfl (by omega) setQ ?_) | refine WL.step rfl (StepTo.store1 2 rfl rfl rfl rfl rfl rfl rfl overQ setQ ?_) | refine WL.step rfl (StepTo.storeA 2 rfl rfl rfl rfl rfl rfl rfl rfl overQ setQ ?_) | refine WL.step rfl (StepTo.storeRow 2 rfl rfl rfl rfl rfl rfl rfl rfl (by omega) setQ ?_) | refine WL.step rfl (StepTo.store1 3 rfl rfl rfl rfl rfl rfl rfl overQ setQ ?_) | refine WL.step rfl (StepTo.storeA 3 rfl rfl rfl rfl rfl rfl rfl rfl overQ setQ ?_) | refine WL.step rfl (StepTo.storeRow 3 rfl rfl rfl rfl rfl rfl rfl rfl (by omega) setQ ?_) | refine WL.step rfl (StepTo.store1 4 rfl rfl rfl rfl rfl rfl rfl overQ setQ ?_) | refine WL.step rfl (StepTo.storeA 4 rfl rfl rfl rfl rfl rfl rfl rfl overQ setQ ?_) | refine WL.step rfl (StepTo.storeRow 4 rfl rfl rfl rfl rfl rfl rfl rfl (by omega) setQ ?_) | refine WL.step rfl (StepTo.store1 5 rfl rfl rfl rfl rfl rfl rfl overQ setQ ?_) | refine WL.step rfl (StepTo.storeA 5 rfl rfl rfl rfl rfl rfl rfl rfl overQ setQ ?_) | refine WL.step rfl (StepTo.storeRow 5 rfl rfl rfl rfl rfl rfl rfl rfl (by omega) setQ ?_) | refine WL.step rfl (StepTo.store1 6 rfl rfl rfl rfl rfl rfl rfl overQ setQ ?_) | refine WL.step rfl (StepTo.storeA 6 rfl rfl rfl rfl rfl rfl rfl rfl overQ setQ ?_) | refine WL.step rfl (StepTo.storeRow 6 rfl rfl rfl rfl rfl rfl rfl rfl (by omega) setQ ?_) | refine WL.step rfl (StepTo.store1 7 rfl rfl rfl rfl rfl rfl rfl overQ setQ ?_) | refine WL.step rfl (StepTo.storeA 7 rfl rfl rfl rfl rfl rfl rfl rfl overQ setQ ?_) | refine WL.step rfl (StepTo.storeRow 7 rfl rfl rfl rfl rfl rfl rfl rfl (by omega) setQ ?_) | refine WL.step rfl (StepTo.store1 8 rfl rfl rfl rfl rfl rfl rfl overQ setQ ?_) | refine WL.step rfl (StepTo.storeA 8 rfl rfl rfl rfl rfl rfl rfl rfl overQ setQ ?_) | refine WL.step rfl (StepTo.storeRow 8 rfl rfl rfl rfl rfl rfl rfl rfl (by omega) setQ ?_) | refine WL.step rfl (StepTo.store1 9 rfl rfl rfl rfl rfl rfl rfl overQ setQ ?_) | refine WL.step rfl (StepTo.storeA 9 rfl rfl rfl rfl rfl rfl rfl rfl overQ setQ ?_) | refine WL.step rfl (StepTo.storeRow 9 rfl rfl rfl rfl rfl rfl rfl rfl (by omega) setQ ?_) | refine WL.step rfl (StepTo.store1 10 rfl rfl rfl rfl rfl rfl rfl overQ setQ ?_) | refine WL.step rfl (StepTo.storeA 10 rfl rfl rfl rfl rfl rfl rfl rfl overQ setQ ?_) | refine WL.step rfl (StepTo.storeRow 10 rfl rfl rfl rfl rfl rfl rfl rfl (by omega) setQ ?_) | refine WL.step rfl (StepTo.store1 11 rfl rfl rfl rfl rfl rfl rfl overQ setQ ?_) | refine WL.step rfl (StepTo.storeA 11 rfl rfl rfl rfl rfl rfl rfl rfl overQ setQ ?_) | refine WL.step rfl (StepTo.storeRow 11 rfl rfl rfl rfl rfl rfl rfl rfl (by omega) setQ ?_))
    | with_reducible refine WC.block ?_
    | with_reducible refine WC.scope ?_
    | with_reducible refine WC.label ?_
    | with_reducible refine WQ.ngN ?_
    | with_reducible refine WQ.ngR ?_
    | with_reducible refine WQ.ngX ?_
    | with_reducible refine WC.skip ?_
    | with_reducible refine WC.ret ?_
    | with_reducible refine WC.exit ?_
    | with_reducible refine WQ.thenR ?_
    | with_reducible refine WQ.thenX ?_
    | with_reducible refine WQ.blkN ?_
    | with_reducible refine WQ.blkR ?_
    | ((with_reducible refine WQ.blkX ?_ ?_); focus rfl)
    | ((with_reducible refine WQ.blkY ?_ ?_); focus rfl)
    | refine WC.condT rfl ?_
    | refine WC.condF rfl ?_
    | refine WC.condTh rfl gdQ ?_
    | refine WC.condFh rfl gdQ ?_
    | (refine WC.cond rfl (fun hc => ?_) (fun hc => ?_) <;> (try first | (with_reducible replace hc := of_decide_eq_true hc) | (with_reducible replace hc := of_decide_eq_false hc) | (with_reducible replace hc := eqT hc) | (with_reducible replace hc := eqF hc) | (with_reducible replace hc := neT hc) | (with_reducible replace hc := neF hc) | (with_reducible replace hc := noT hc) | (with_reducible replace hc := noF hc)) <;> (try (exfalso; omega))))
  generalize hi0e : xs.findIdx p = i0 at hi0
  have hbefore : ∀ x ∈ xs.take i0, p x = false := fun x hx' => by
    obtain ⟨j, hj, rfl⟩ := List.getElem_of_mem hx'
    rw [List.length_take] at hj
    rw [List.getElem_take]
    have := List.not_of_lt_findIdx (p := p) (xs := xs) (i := j) (by omega)
    simpa using this
  have hat : p (xs[i0]'(by omega)) = true := by
    have := List.findIdx_getElem (p := p) (xs := xs) (w := by omega)
    simpa [hi0e] using this
  have hf0 : (xs.take (i0 + 1)).filter (fun x => !p x) = xs.take i0 := by
    rw [filter_take (List.getElem?_eq_getElem (by omega : i0 < xs.length)), hat, if_pos rfl, List.append_nil]
    exact List.filter_eq_self.2 fun x hx' => by simp [hbefore x hx']
  refine WC.loop (fun mm τ H => ∃ (j k : Nat) (ys : List Msg), j ≤ n ∧ mm = n - j ∧ k < j ∧ ys.length = n ∧ ys.take k = (xs.take j).filter (fun x => !p x) ∧ ys.drop j = xs.drop j ∧ ((xs.take j).filter fun x => !p x).length = k ∧
      τ = [(0, .slice (some ⟨g, 0, none⟩) n c), (1, .func (.func f) #[] caps.toArray), (5, .int .i64 k), (6, .int .i64 j)] ∧ H = [.row (some ⟨g, 0, none⟩) n c 38 6 (flat Msg.cs ys)])
    (n - (i0 + 1)) _ _ [0] ?_ ?_ ⟨i0 + 1, i0, xs, by omega, rfl, by omega, hl, hf0.symm, rfl, by rw [hf0, List.length_take]; omega, rfl, rfl⟩ ?_
  · exact (by repeat (first | exact Sub.nil | refine Sub.cons rfl ?_ | refine Sub.consE rfl (int_eq (by omega)) ?_))
  · exact ⟨by decide, rfl⟩
  rintro mm τ H ⟨j, k, ys, hj, rfl, hkj, hyl, hyk, hyd, hkl, rfl, rfl⟩
  have hfl : (flat Msg.cs ys).length = n * 6 := by rw [flat_len Msg.cs_len, hyl]
  by_cases hlt : j < n
  · obtain ⟨m, hm⟩ : ∃ m, xs[j]? = some m := ⟨_, List.getElem?_eq_getElem (by omega)⟩
    have hym : ys[j]? = some m := by
      have : (ys.drop j)[0]? = (xs.drop j)[0]? := by rw [hyd]
      rw [List.getElem?_drop, List.getElem?_drop, Nat.add_zero] at this
      rw [this, hm]
    have hpm : PartAt (flat Msg.cs ys) (j * 6) m.cs := PartAt.flat Msg.cs_len hym
    have hum := hx m (List.mem_of_getElem? hm)
    have hft := filter_take (p := p) hm
    cases hpx : p m with
    | true =>
      rw [hpx, if_pos rfl, List.append_nil] at hft
      repeat' (first
    | with_reducible refine WL.nil ?_
    | with_reducible refine WQ.thenN ?_
    | with_reducible refine WQ.code ?_
    | with_reducible refine WC.seq ?_
    | with_reducible refine WC.region ?_
    | ((with_reducible refine WL.isN_move ?_); first | refine WL.yld rfl (Yld.pure rfl nrmQ) ?_)
    | ((with_reducible refine WL.isN_assign ?_); first | refine WL.yld rfl (Yld.pure rfl nrmQ) ?_)
    | ((with_reducible refine WL.isN_bin ?_); first | refine WL.yld rfl (Yld.pure rfl nrmQ) ?_ | refine WL.yld rfl (Yld.rem rfl rfl rfl rfl (by omega) (by omega)) ?_ | refine WL.yld rfl (Yld.quo rfl rfl rfl rfl (by omega) (by omega) nrmQ) ?_ | refine WL.yld rfl (Yld.eqlB rfl rfl rfl rfl) ?_ | refine WL.yld rfl (Yld.neqB rfl rfl rfl rfl) ?_ | refine WL.yld rfl (Yld.eqlA 4 rfl rfl rfl (by kernel_rfl) (by kernel_rfl) rfl rfl) ?_ | refine WL.yld rfl (Yld.neqA 4 rfl rfl rfl (by kernel_rfl) (by kernel_rfl) rfl rfl) ?_ | refine WL.yld rfl (Yld.quoT rfl rfl rfl rfl (by omega) nrmQ) ?_)
    | ((with_reducible refine WL.isN_un ?_); first | refine WL.yld rfl (Yld.pure rfl nrmQ) ?_)
    | ((with_reducible refine WL.isN_load ?_); first | refine WL.yld rfl (Yld.load rfl rfl rfl rfl cellQ) ?_ | refine WL.yld rfl (Yld.loadAgg rfl rfl rfl rfl rfl aggQ) ?_)
    | ((with_reducible refine WL.isN_iaddr ?_); first | refine WL.yld rfl (Yld.indexS 0 rfl rfl rfl rfl rfl rfl (by omega)) ?_ | refine WL.yld rfl (Yld.indexS 1 rfl rfl rfl rfl rfl rfl (by omega)) ?_ | refine WL.yld rfl (Yld.indexS 2 rfl rfl rfl rfl rfl rfl (by omega)) ?_ | refine WL.yld rfl (Yld.indexS _ rfl rfl rfl rfl rfl rfl (by omega)) ?_ | refine WL.yld rfl (Yld.indexA 0 rfl rfl rfl rfl rfl rfl (by omega)) ?_ | refine WL.yld rfl (Yld.indexA 1 rfl rfl rfl rfl rfl rfl (by omega)) ?_ | refine WL.yld rfl (Yld.indexA _ rfl rfl rfl rfl rfl rfl (by omega)) ?_)
    | ((with_reducible refine WL.isN_call ?_); first | refine WL.step rfl (StepTo.callV (v := .bool true) (us := mv m :: caps) rfl rfl rfl rfl rfl hB (fun w' hw' => hpx ▸ hp w' hw'.ext m hum) ?_) | refine WL.yld rfl (Yld.lenSlice rfl rfl rfl) ?_ | refine WL.yld rfl (Yld.lenStr rfl rfl rfl) ?_)
    | ((with_reducible refine WL.isN_alloc ?_); first | refine WL.step rfl (StepTo.allocA rfl rfl rfl rfl (fun _ => ?_)) | refine WL.step rfl (StepTo.alloc1 rfl rfl rfl rfl rfl (fun _ => ?_)))
    | ((with_reducible refine WL.isN_store ?_); first | refine WL.step rfl (StepTo.store1 0 rfl rfl rfl rfl rfl rfl rfl overQ setQ ?_) | refine WL.step rfl (StepTo.storeA 0 rfl rfl rfl rfl rfl rfl rfl rfl overQ setQ ?_) | refine WL.step rfl (StepTo.storeRow 0 rfl rfl rfl rfl rfl rfl rfl rfl (by omega) setQ ?_) | refine WL.step rfl (StepTo.store1 1 rfl rfl rfl rfl rfl rfl rfl overQ setQ ?_) | refine WL.step rfl (StepTo.storeA 1 rfl rfl rfl rfl rfl rfl rfl rfl overQ setQ ?_) | refine WL.step rfl (StepTo.storeRow 1 rfl rfl rfl rfl rfl rfl rfl rfl (by omega) setQ ?_) | refine WL.step rfl (StepTo.store1 2 rfl rfl rfl rfl rfl rfl rfl overQ setQ ?_) | refine WL.step rfl (StepTo.storeA 2 rfl rfl rfl rfl rfl rfl rfl rfl overQ setQ ?_) | refine WL.step rfl (StepTo.storeRow 2 rfl rfl rfl rfl rfl rfl rfl rfl (by omega) setQ ?_) | refine WL.step rfl (StepTo.store1 3 rfl rfl rfl rfl rfl rfl rfl overQ setQ ?_) | refine WL.step rfl (StepTo.storeA 3 rfl rfl rfl rfl rfl rfl rfl rfl overQ setQ ?_) | refine WL.step rfl (StepTo.storeRow 3 rfl rfl rfl rfl rfl rfl rfl rfl (by omega) setQ ?_) | refine WL.step rfl (StepTo.store1 4 rfl rfl rfl rfl rfl rfl rfl overQ setQ ?_) | refine WL.step rfl (StepTo.storeA 4 rfl rfl rfl rfl rfl rfl rfl rfl overQ setQ ?_) | refine WL.step rfl (StepTo.storeRow 4 rfl rfl rfl rfl rfl rfl rfl rfl (by omega) setQ ?_) | refine WL.step rfl (StepTo.store1 5 rfl rfl rfl rfl rfl rfl rfl overQ setQ ?_) | refine WL.step rfl (StepTo.storeA 5 rfl rfl rfl rfl rfl rfl rfl rfl overQ setQ ?_) | refine WL.step rfl (StepTo.storeRow 5 rfl rfl rfl rfl rfl rfl rfl rfl (by omega) setQ ?_) | refine WL.step rfl (StepTo.store1 6 rfl rfl rfl rfl rfl rfl rfl overQ setQ ?_) | refine WL.step rfl (StepTo.storeA 6 rfl rfl rfl rfl rfl rfl rfl rfl overQ setQ ?_) | refine WL.step rfl (StepTo.storeRow 6 rfl rfl rfl rfl rfl rfl rfl rfl (by omega) setQ ?_) | refine WL.step rfl (StepTo.store1 7 rfl rfl rfl rfl rfl rfl rfl overQ setQ ?_) | refine WL.step rfl (StepTo.storeA 7 rfl rfl rfl rfl rfl rfl rfl rfl overQ setQ ?_) | refine WL.step rfl (StepTo.storeRow 7 rfl rfl rfl rfl rfl rfl rfl rfl (by omega) setQ ?_) | refine WL.step rfl (StepTo.store1 8 rfl rfl rfl rfl rfl rfl rfl overQ setQ ?_) | refine WL.step rfl (StepTo.storeA 8 rfl rfl rfl rfl rfl rfl rfl rfl overQ setQ ?_) | refine WL.step rfl (StepTo.storeRow 8 rfl rfl rfl rfl rfl rfl rfl rfl (by omega) setQ ?_) | refine WL.step rfl (StepTo.store1 9 rfl rfl rfl rfl rfl rfl rfl overQ setQ ?_) | refine WL.step rfl (StepTo.storeA 9 rfl rfl rfl rfl rfl rfl rfl rfl overQ setQ ?_) | refine WL.step rfl (StepTo.storeRow 9 rfl rfl rfl rfl rfl rfl rfl rfl (by omega) setQ ?_) | refine WL.step rfl (StepTo.store1 10 rfl rfl rfl rfl rfl rfl rfl overQ setQ ?_) | refine WL.step rfl (StepTo.storeA 10 rfl rfl rfl rfl rfl rfl rfl rfl overQ setQ ?_) | refine WL.step rfl (StepTo.storeRow 10 rfl rfl rfl rfl rfl rfl rfl rfl (by omega) setQ ?_) | refine WL.step rfl (StepTo.store1 11 rfl rfl rfl rfl rfl rfl rfl overQ setQ ?_) | refine WL.step rfl (StepTo.storeA 11 rfl rfl rfl rfl rfl rfl rfl rfl overQ setQ ?_) | refine WL.step rfl (StepTo.storeRow 11 rfl rfl rfl rfl rfl rfl rfl rfl (by omega) setQ ?_))
    | with_reducible refine WC.block ?_
    | with_reducible refine WC.scope ?_
    | with_reducible refine WC.label ?_
    | with_reducible refine WQ.ngN ?_
    | with_reducible refine WQ.ngR ?_
    | with_reducible refine WQ.ngX ?_
    | with_reducible refine WC.skip ?_
    | with_reducible refine WC.ret ?_
    | with_reducible refine WC.exit ?_
    | with_reducible refine WQ.thenR ?_
    | with_reducible refine WQ.thenX ?_
    | with_reducible refine WQ.blkN ?_
    | with_reducible refine WQ.blkR ?_
    | ((with_reducible refine WQ.blkX ?_ ?_); focus rfl)
    | ((with_reducible refine WQ.blkY ?_ ?_); focus rfl)
    | refine WC.condT rfl ?_
    | refine WC.condF rfl ?_
    | refine WC.condTh rfl gdQ ?_
    | refine WC.condFh rfl gdQ ?_
    | (refine WC.cond rfl (fun hc => ?_) (fun hc => ?_) <;> (try first | (with_reducible replace hc := of_decide_eq_true hc) | (with_reducible replace hc := of_decide_eq_false hc) | (with_reducible replace hc := eqT hc) | (with_reducible replace hc := eqF hc) | (with_reducible replace hc := neT hc) | (with_reducible replace hc := neF hc) | (with_reducible replace hc := noT hc) | (with_reducible replace hc := noF hc)) <;> (try (exfalso; omega))))
      exact WQ.rnd (n - (j + 1)) _ _ [1] (by repeat (first | exact Sub.nil | refine Sub.cons rfl ?_ | refine Sub.consE rfl (int_eq (by omega)) ?_)) ⟨by decide, rfl⟩ (by omega) ⟨j + 1, k, ys, by omega, rfl, by omega, hyl, by rw [hft, hyk], by
        rw [← List.drop_drop, ← List.drop_drop, hyd], by rw [hft, hkl], rfl, rfl⟩
    | false =>
      rw [hpx, if_neg (by simp)] at hft
      have hset : (flat Msg.cs ys).take (0 + k * 6) ++ m.cs ++ (flat Msg.cs ys).drop (0 + k * 6 + m.cs.length) = flat Msg.cs (ys.set k m) := by
        rw [Nat.zero_add, Msg.cs_len, show k * 6 + 6 = (k + 1) * 6 from by omega, ← flat_take Msg.cs_len, ← flat_drop Msg.cs_len, List.set_eq_take_append_cons_drop, if_pos (by omega), flat_append, flat_cons, List.append_assoc]
      repeat' (first
    | with_reducible refine WL.nil ?_
    | with_reducible refine WQ.thenN ?_
    | with_reducible refine WQ.code ?_
    | with_reducible refine WC.seq ?_
    | with_reducible refine WC.region ?_
    | ((with_reducible refine WL.isN_move ?_); first | refine WL.yld rfl (Yld.pure rfl nrmQ) ?_)
    | ((with_reducible refine WL.isN_assign ?_); first | refine WL.yld rfl (Yld.pure rfl nrmQ) ?_)
    | ((with_reducible refine WL.isN_bin ?_); first | refine WL.yld rfl (Yld.pure rfl nrmQ) ?_ | refine WL.yld rfl (Yld.rem rfl rfl rfl rfl (by omega) (by omega)) ?_ | refine WL.yld rfl (Yld.quo rfl rfl rfl rfl (by omega) (by omega) nrmQ) ?_ | refine WL.yld rfl (Yld.eqlB rfl rfl rfl rfl) ?_ | refine WL.yld rfl (Yld.neqB rfl rfl rfl rfl) ?_ | refine WL.yld rfl (Yld.eqlA 4 rfl rfl rfl (by kernel_rfl) (by kernel_rfl) rfl rfl) ?_ | refine WL.yld rfl (Yld.neqA 4 rfl rfl rfl (by kernel_rfl) (by kernel_rfl) rfl rfl) ?_ | refine WL.yld rfl (Yld.quoT rfl rfl rfl rfl (by omega) nrmQ) ?_)
    | ((with_reducible refine WL.isN_un ?_); first | refine WL.yld rfl (Yld.pure rfl nrmQ) ?_)
    | ((with_reducible refine WL.isN_load ?_); first | refine WL.yld rfl (Yld.load rfl rfl rfl rfl cellQ) ?_ | refine WL.yld rfl (Yld.loadAgg rfl rfl rfl rfl rfl aggQ) ?_)
    | ((with_reducible refine WL.isN_iaddr ?_); first | refine WL.yld rfl (Yld.indexS 0 rfl rfl rfl rfl rfl rfl (by omega)) ?_ | refine WL.yld rfl (Yld.indexS 1 rfl rfl rfl rfl rfl rfl (by omega)) ?_ | refine WL.yld rfl (Yld.indexS 2 rfl rfl rfl rfl rfl rfl (by omega)) ?_ | refine WL.yld rfl (Yld.indexS _ rfl rfl rfl rfl rfl rfl (by omega)) ?_ | refine WL.yld rfl (Yld.indexA 0 rfl rfl rfl rfl rfl rfl (by omega)) ?_ | refine WL.yld rfl (Yld.indexA 1 rfl rfl rfl rfl rfl rfl (by omega)) ?_ | refine WL.yld rfl (Yld.indexA _ rfl rfl rfl rfl rfl rfl (by omega)) ?_)
    | ((with_reducible refine WL.isN_call ?_); first | refine WL.step rfl (StepTo.callV (v := .bool false) (us := mv m :: caps) rfl rfl rfl rfl rfl hB (fun w' hw' => hpx ▸ hp w' hw'.ext m hum) ?_) | refine WL.yld rfl (Yld.lenSlice rfl rfl rfl) ?_ | refine WL.yld rfl (Yld.lenStr rfl rfl rfl) ?_)
    | ((with_reducible refine WL.isN_alloc ?_); first | refine WL.step rfl (StepTo.allocA rfl rfl rfl rfl (fun _ => ?_)) | refine WL.step rfl (StepTo.alloc1 rfl rfl rfl rfl rfl (fun _ => ?_)))
    | ((with_reducible refine WL.isN_store ?_); first | refine WL.step rfl (StepTo.storeRowA (vs := m.cs) 1 rfl rfl rfl rfl rfl rfl (Msg.cs_one m) rfl (by rw [Msg.cs_len]; omega) hset setQ ?_) | refine WL.step rfl (StepTo.store1 0 rfl rfl rfl rfl rfl rfl rfl overQ setQ ?_) | refine WL.step rfl (StepTo.storeA 0 rfl rfl rfl rfl rfl rfl rfl rfl overQ setQ ?_) | refine WL.step rfl (StepTo.storeRow 0 rfl rfl rfl rfl rfl rfl rfl rfl (by omega) setQ ?_) | refine WL.step rfl (StepTo.store1 1 rfl rfl rfl rfl rfl rfl rfl overQ setQ ?_) | refine WL.step rfl (StepTo.storeA 1 rfl rfl rfl rfl rfl rfl rfl rfl overQ setQ ?_) | refine WL.step rfl (StepTo.storeRow 1 rfl rfl rfl rfl rfl rfl rfl rfl (by omega) setQ ?_) | refine WL.step rfl (StepTo.store1 2 rfl rfl rfl rfl rfl rfl rfl overQ setQ ?_) | refine WL.step rfl (StepTo.storeA 2 rfl rfl rfl rfl rfl rfl rfl rfl overQ setQ ?_) | refine WL.step rfl (StepTo.storeRow 2 rfl rfl rfl rfl rfl rfl rfl rfl (by omega) setQ ?_) | refine WL.step rfl (StepTo.store1 3 rfl rfl rfl rfl rfl rfl rfl overQ setQ ?_) | refine WL.step rfl (StepTo.storeA 3 rfl rfl rfl rfl rfl rfl rfl rfl overQ setQ ?_) | refine WL.step rfl (StepTo.storeRow 3 rfl rfl rfl rfl rfl rfl rfl rfl (by omega) setQ ?_) | refine WL.step rfl (StepTo.store1 4 rfl rfl rfl rfl rfl rfl rfl overQ setQ ?_) | refine WL.step rfl (StepTo.storeA 4 rfl rfl rfl rfl rfl rfl rfl rfl overQ setQ ?_) | refine WL.step rfl (StepTo.storeRow 4 rfl rfl rfl rfl rfl rfl rfl rfl (by omega) setQ ?_) | refine WL.step rfl (StepTo.store1 5 rfl rfl rfl rfl rfl rfl rfl overQ setQ ?_) | refine WL.step rfl (StepTo.storeA 5 rfl rfl rfl rfl rfl rfl rfl rfl overQ setQ ?_) | refine WL.step rfl (StepTo.storeRow 5 rfl rfl rfl rfl rfl rfl rfl rfl (by omega) setQ ?_) | refine WL.step rfl (StepTo.store1 6 rfl rfl rfl rfl rfl rfl rfl overQ setQ ?_) | refine WL.step rfl (StepTo.storeA 6 rfl rfl rfl rfl rfl rfl rfl rfl overQ setQ ?_) | refine WL.step rfl (StepTo.storeRow 6 rfl rfl rfl rfl rfl rfl rfl rfl (by omega) setQ ?_) | refine WL.step rfl (StepTo.store1 7 rfl rfl rfl rfl rfl rfl rfl overQ setQ ?_) | refine WL.step rfl (StepTo.storeA 7 rfl rfl rfl rfl rfl rfl rfl rfl overQ setQ ?_) | refine WL.step rfl (StepTo.storeRow 7 rfl rfl rfl rfl rfl rfl rfl rfl (by omega) setQ ?_) | refine WL.step rfl (StepTo.store1 8 rfl rfl rfl rfl rfl rfl rfl overQ setQ ?_) | refine WL.step rfl (StepTo.storeA 8 rfl rfl rfl rfl rfl rfl rfl rfl overQ setQ ?_) | refine WL.step rfl (StepTo.storeRow 8 rfl rfl rfl rfl rfl rfl rfl rfl (by omega) setQ ?_) | refine WL.step rfl (StepTo.store1 9 rfl rfl rfl rfl rfl rfl rfl overQ setQ ?_) | refine WL.step rfl (StepTo.storeA 9 rfl rfl rfl rfl rfl rfl rfl rfl overQ setQ ?_) | refine WL.step rfl (StepTo.storeRow 9 rfl rfl rfl rfl rfl rfl rfl rfl (by omega) setQ ?_) | refine WL.step rfl (StepTo.store1 10 rfl rfl rfl rfl rfl rfl rfl overQ setQ ?_) | refine WL.step rfl (StepTo.storeA 10 rfl rfl rfl rfl rfl rfl rfl rfl overQ setQ ?_) | refine WL.step rfl (StepTo.storeRow 10 rfl rfl rfl rfl rfl rfl rfl rfl (by omega) setQ ?_) | refine WL.step rfl (StepTo.store1 11 rfl rfl rfl rfl rfl rfl rfl overQ setQ ?_) | refine WL.step rfl (StepTo.storeA 11 rfl rfl rfl rfl rfl rfl rfl rfl overQ setQ ?_) | refine WL.step rfl (StepTo.storeRow 11 rfl rfl rfl rfl rfl rfl rfl rfl (by omega) setQ ?_))
    | with_reducible refine WC.block ?_
    | with_reducible refine WC.scope ?_
    | with_reducible refine WC.label ?_
    | with_reducible refine WQ.ngN ?_
    | with_reducible refine WQ.ngR ?_
    | with_reducible refine WQ.ngX ?_
    | with_reducible refine WC.skip ?_
    | with_reducible refine WC.ret ?_
    | with_reducible refine WC.exit ?_
    | with_reducible refine WQ.thenR ?_
    | with_reducible refine WQ.thenX ?_
    | with_reducible refine WQ.blkN ?_
    | with_reducible refine WQ.blkR ?_
    | ((with_reducible refine WQ.blkX ?_ ?_); focus rfl)
    | ((with_reducible refine WQ.blkY ?_ ?_); focus rfl)
    | refine WC.condT rfl ?_
    | refine WC.condF rfl ?_
    | refine WC.condTh rfl gdQ ?_
    | refine WC.condFh rfl gdQ ?_
    | (refine WC.cond rfl (fun hc => ?_) (fun hc => ?_) <;> (try first | (with_reducible replace hc := of_decide_eq_true hc) | (with_reducible replace hc := of_decide_eq_false hc) | (with_reducible replace hc := eqT hc) | (with_reducible replace hc := eqF hc) | (with_reducible replace hc := neT hc) | (with_reducible replace hc := neF hc) | (with_reducible replace hc := noT hc) | (with_reducible replace hc := noF hc)) <;> (try (exfalso; omega))))
      exact WQ.rnd (n - (j + 1)) _ _ [1] (by repeat (first | exact Sub.nil | refine Sub.cons rfl ?_ | refine Sub.consE rfl (int_eq (by omega)) ?_)) ⟨by decide, rfl⟩ (by omega) ⟨j + 1, k + 1, ys.set k m, by omega, rfl, by omega, by rw [List.length_set]; exact hyl, by
        rw [hft, ← hyk]
        have hk : (ys.set k m)[k]? = some m := List.getElem?_set_self (by omega)
        rw [take_snoc hk, List.take_set_of_le (Nat.le_refl _)], by
        rw [List.drop_set_of_lt (by omega), ← List.drop_drop, ← List.drop_drop, hyd], by rw [hft, List.length_append, hkl]; rfl, rfl, rfl⟩
  obtain rfl : n = j := by omega
  have hxt : xs.take n = xs := List.take_of_length_le (by omega)
  rw [hxt] at hyk hkl
  have hcut : (flat Msg.cs ys).take (k * 6) = flat Msg.cs (xs.filter fun x => !p x) := by rw [← flat_take Msg.cs_len, hyk]
  refine WC.capRow 0 rfl fun hcap => ?_
  repeat' (first
    | with_reducible refine WL.nil ?_
    | with_reducible refine WQ.thenN ?_
    | with_reducible refine WQ.code ?_
    | with_reducible refine WC.seq ?_
    | with_reducible refine WC.region ?_
    | ((with_reducible refine WL.isN_move ?_); first | refine WL.yld rfl (Yld.pure rfl nrmQ) ?_)
    | ((with_reducible refine WL.isN_assign ?_); first | refine WL.yld rfl (Yld.pure rfl nrmQ) ?_)
    | ((with_reducible refine WL.isN_bin ?_); first | refine WL.yld rfl (Yld.pure rfl nrmQ) ?_ | refine WL.yld rfl (Yld.rem rfl rfl rfl rfl (by omega) (by omega)) ?_ | refine WL.yld rfl (Yld.quo rfl rfl rfl rfl (by omega) (by omega) nrmQ) ?_ | refine WL.yld rfl (Yld.eqlB rfl rfl rfl rfl) ?_ | refine WL.yld rfl (Yld.neqB rfl rfl rfl rfl) ?_ | refine WL.yld rfl (Yld.eqlA 4 rfl rfl rfl (by kernel_rfl) (by kernel_rfl) rfl rfl) ?_ | refine WL.yld rfl (Yld.neqA 4 rfl rfl rfl (by kernel_rfl) (by kernel_rfl) rfl rfl) ?_ | refine WL.yld rfl (Yld.quoT rfl rfl rfl rfl (by omega) nrmQ) ?_)
    | ((with_reducible refine WL.isN_un ?_); first | refine WL.yld rfl (Yld.pure rfl nrmQ) ?_)
    | ((with_reducible refine WL.isN_load ?_); first | refine WL.yld rfl (Yld.load rfl rfl rfl rfl cellQ) ?_ | refine WL.yld rfl (Yld.loadAgg rfl rfl rfl rfl rfl aggQ) ?_)
    | ((with_reducible refine WL.isN_iaddr ?_); first | refine WL.yld rfl (Yld.indexS 0 rfl rfl rfl rfl rfl rfl (by omega)) ?_ | refine WL.yld rfl (Yld.indexS 1 rfl rfl rfl rfl rfl rfl (by omega)) ?_ | refine WL.yld rfl (Yld.indexS 2 rfl rfl rfl rfl rfl rfl (by omega)) ?_ | refine WL.yld rfl (Yld.indexS _ rfl rfl rfl rfl rfl rfl (by omega)) ?_ | refine WL.yld rfl (Yld.indexA 0 rfl rfl rfl rfl rfl rfl (by omega)) ?_ | refine WL.yld rfl (Yld.indexA 1 rfl rfl rfl rfl rfl rfl (by omega)) ?_ | refine WL.yld rfl (Yld.indexA _ rfl rfl rfl rfl rfl rfl (by omega)) ?_)
    | ((with_reducible refine WL.isN_call ?_); first | refine WL.step rfl (StepTo.clearCut (k := 6) (lo := k) (z := .agg #[.int .u32 0, .bool false, .int .u16 0, .int .u16 0, .int .u32 0, .string ByteArray.empty]) 0 rfl rfl rfl rfl rfl rfl rfl rfl rfl (by omega) setQ ?_) | refine WL.yld rfl (Yld.lenSlice rfl rfl rfl) ?_ | refine WL.yld rfl (Yld.lenStr rfl rfl rfl) ?_)
    | ((with_reducible refine WL.isN_alloc ?_); first | refine WL.step rfl (StepTo.allocA rfl rfl rfl rfl (fun _ => ?_)) | refine WL.step rfl (StepTo.alloc1 rfl rfl rfl rfl rfl (fun _ => ?_)))
    | ((with_reducible refine WL.isN_store ?_); first | refine WL.step rfl (StepTo.store1 0 rfl rfl rfl rfl rfl rfl rfl overQ setQ ?_) | refine WL.step rfl (StepTo.storeA 0 rfl rfl rfl rfl rfl rfl rfl rfl overQ setQ ?_) | refine WL.step rfl (StepTo.storeRow 0 rfl rfl rfl rfl rfl rfl rfl rfl (by omega) setQ ?_) | refine WL.step rfl (StepTo.store1 1 rfl rfl rfl rfl rfl rfl rfl overQ setQ ?_) | refine WL.step rfl (StepTo.storeA 1 rfl rfl rfl rfl rfl rfl rfl rfl overQ setQ ?_) | refine WL.step rfl (StepTo.storeRow 1 rfl rfl rfl rfl rfl rfl rfl rfl (by omega) setQ ?_) | refine WL.step rfl (StepTo.store1 2 rfl rfl rfl rfl rfl rfl rfl overQ setQ ?_) | refine WL.step rfl (StepTo.storeA 2 rfl rfl rfl rfl rfl rfl rfl rfl overQ setQ ?_) | refine WL.step rfl (StepTo.storeRow 2 rfl rfl rfl rfl rfl rfl rfl rfl (by omega) setQ ?_) | refine WL.step rfl (StepTo.store1 3 rfl rfl rfl rfl rfl rfl rfl overQ setQ ?_) | refine WL.step rfl (StepTo.storeA 3 rfl rfl rfl rfl rfl rfl rfl rfl overQ setQ ?_) | refine WL.step rfl (StepTo.storeRow 3 rfl rfl rfl rfl rfl rfl rfl rfl (by omega) setQ ?_) | refine WL.step rfl (StepTo.store1 4 rfl rfl rfl rfl rfl rfl rfl overQ setQ ?_) | refine WL.step rfl (StepTo.storeA 4 rfl rfl rfl rfl rfl rfl rfl rfl overQ setQ ?_) | refine WL.step rfl (StepTo.storeRow 4 rfl rfl rfl rfl rfl rfl rfl rfl (by omega) setQ ?_) | refine WL.step rfl (StepTo.store1 5 rfl rfl rfl rfl rfl rfl rfl overQ setQ ?_) | refine WL.step rfl (StepTo.storeA 5 rfl rfl rfl rfl rfl rfl rfl rfl overQ setQ ?_) | refine WL.step rfl (StepTo.storeRow 5 rfl rfl rfl rfl rfl rfl rfl rfl (by omega) setQ ?_) | refine WL.step rfl (StepTo.store1 6 rfl rfl rfl rfl rfl rfl rfl overQ setQ ?_) | refine WL.step rfl (StepTo.storeA 6 rfl rfl rfl rfl rfl rfl rfl rfl overQ setQ ?_) | refine WL.step rfl (StepTo.storeRow 6 rfl rfl rfl rfl rfl rfl rfl rfl (by omega) setQ ?_) | refine WL.step rfl (StepTo.store1 7 rfl rfl rfl rfl rfl rfl rfl overQ setQ ?_) | refine WL.step rfl (StepTo.storeA 7 rfl rfl rfl rfl rfl rfl rfl rfl overQ setQ ?_) | refine WL.step rfl (StepTo.storeRow 7 rfl rfl rfl rfl rfl rfl rfl rfl (by omega) setQ ?_) | refine WL.step rfl (StepTo.store1 8 rfl rfl rfl rfl rfl rfl rfl overQ setQ ?_) | refine WL.step rfl (StepTo.storeA 8 rfl rfl rfl rfl rfl rfl rfl rfl overQ setQ ?_) | refine WL.step rfl (StepTo.storeRow 8 rfl rfl rfl rfl rfl rfl rfl rfl (by omega) setQ ?_) | refine WL.step rfl (StepTo.store1 9 rfl rfl rfl rfl rfl rfl rfl overQ setQ ?_) | refine WL.step rfl (StepTo.storeA 9 rfl rfl rfl rfl rfl rfl rfl rfl overQ setQ ?_) | refine WL.step rfl (StepTo.storeRow 9 rfl rfl rfl rfl rfl rfl rfl rfl (by omega) setQ ?_) | refine WL.step rfl (StepTo.store1 10 rfl rfl rfl rfl rfl rfl rfl overQ setQ ?_) | refine WL.step rfl (StepTo.storeA 10 rfl rfl rfl rfl rfl rfl rfl rfl overQ setQ ?_) | refine WL.step rfl (StepTo.storeRow 10 rfl rfl rfl rfl rfl rfl rfl rfl (by omega) setQ ?_) | refine WL.step rfl (StepTo.store1 11 rfl rfl rfl rfl rfl rfl rfl overQ setQ ?_) | refine WL.step rfl (StepTo.storeA 11 rfl rfl rfl rfl rfl rfl rfl rfl overQ setQ ?_) | refine WL.step rfl (StepTo.storeRow 11 rfl rfl rfl rfl rfl rfl rfl rfl (by omega) setQ ?_))
    | ((with_reducible refine WL.isN_slice ?_); first | refine WL.step rfl (StepTo.yld (Yld.sliceLo (lo := k) rfl rfl rfl rfl rfl rfl (by omega)) rfl ?_) | refine WL.step rfl (StepTo.yld (Yld.sliceHi (h := k) rfl rfl rfl rfl rfl rfl (by omega)) rfl ?_))
    | with_reducible refine WC.block ?_
    | with_reducible refine WC.scope ?_
    | with_reducible refine WC.label ?_
    | with_reducible refine WQ.ngN ?_
    | with_reducible refine WQ.ngR ?_
    | with_reducible refine WQ.ngX ?_
    | with_reducible refine WC.skip ?_
    | with_reducible refine WC.ret ?_
    | with_reducible refine WC.exit ?_
    | with_reducible refine WQ.thenR ?_
    | with_reducible refine WQ.thenX ?_
    | with_reducible refine WQ.blkN ?_
    | with_reducible refine WQ.blkR ?_
    | ((with_reducible refine WQ.blkX ?_ ?_); focus rfl)
    | ((with_reducible refine WQ.blkY ?_ ?_); focus rfl)
    | refine WC.condT rfl ?_
    | refine WC.condF rfl ?_
    | refine WC.condTh rfl gdQ ?_
    | refine WC.condFh rfl gdQ ?_
    | (refine WC.cond rfl (fun hc => ?_) (fun hc => ?_) <;> (try first | (with_reducible replace hc := of_decide_eq_true hc) | (with_reducible replace hc := of_decide_eq_false hc) | (with_reducible replace hc := eqT hc) | (with_reducible replace hc := eqF hc) | (with_reducible replace hc := neT hc) | (with_reducible replace hc := neF hc) | (with_reducible replace hc := noT hc) | (with_reducible replace hc := noF hc)) <;> (try (exfalso; omega))))
  rw [hcut]
  exact WQ.body (Reads.tmp rfl rfl) fun w' hw' => ⟨_, _, rfl, ⟨k, hkl.symm, rfl, rfl⟩, hw'.toMod (by simp [Item.mine])⟩

theorem Ext.cell {D : Nat → Prop} {w w' : World} {b t : Nat} {cs : List Value} {v : Value} {off : Nat} (h : Ext D w w') (hb : w.heap[b]? = some (.cells cs.toArray t (0, 0))) (hd : ¬ D b) (hc : cs[off]? = some v) : w'.cell? ⟨b, off, none⟩ = some v := by
  have h1 : b < w.heap.size := by
    rcases Nat.lt_or_ge b w.heap.size with h | h
    · exact h
    · rw [Array.getElem?_eq_none h] at hb; cases hb
  have h2 := (h.block b h1 hd).trans hb
  rw [cell_of_row w' b off cs.toArray t (0, 0) h2]
  simpa using hc
/-- The closure of 'Skip', over the boxes that it holds. -/
theorem skip_pred {w0 w : World} {D : Nat → Prop} {H : List Item} (hw : Sat w0 D H w) (i j k : Nat) {a b ta tb : Nat} {s to : Int} {A : Option Addr} {n c t kk : Nat} {xs : List Value} (hi : H[i]? = some (.box a ta [.int .i64 s])) (hj : H[j]? = some (.box b tb [.int .u16 to])) (hk : H[k]? = some (.row A n c t kk xs)) (hik : i ≠ k) (hjk : j ≠ k) :
    PredC Try.prog 30 [.pointer (some ⟨a, 0, none⟩), .pointer (some ⟨b, 0, none⟩)] (fun m => m.stream == s && lateB m.ssn to) (Bs [.row A n c t kk xs]) w := by
  intro w' h' x hx
  have ha : ¬ Bs [.row A n c t kk xs] a := fun ⟨it, hit, hb⟩ => by
    rw [List.mem_singleton] at hit
    subst hit
    exact (hw.pair hi hk hik).ne rfl a rfl hb
  have hb : ¬ Bs [.row A n c t kk xs] b := fun ⟨it, hit, hb⟩ => by
    rw [List.mem_singleton] at hit
    subst hit
    exact (hw.pair hj hk hjk).ne rfl b rfl hb
  exact skip1_q a b s to x w' (h'.cell (hw.holds _ (List.mem_of_getElem? hi)) ha rfl) (h'.cell (hw.holds _ (List.mem_of_getElem? hj)) hb rfl) hx

def keepF (s to : Int) (wait : List Msg) : List Msg := wait.filter fun m => !(m.stream == s && lateB m.ssn to)
set_option maxHeartbeats 4000000 in
theorem skip_yes (AN : Option Addr) (kN cN : Nat) (next : List Int) (AW : Option Addr) (nW cW : Nat) (wait : List Msg) (s : Nat) (to x : Int) (w : World) (hN : Us w w.heap.size AN kN next) (hW : Ms w w.heap.size AW nW wait) (oN : okA AN kN) (oW : okA AW nW) (hk : kN ≤ 65535) (hn : nW < 1000000)
    (hs : s < kN) (hx : next[s]? = some x) (hl : lateB to x = false) (h0 : 0 ≤ to) (h1 : to ≤ 65535) (hu : ∀ m ∈ wait, U16M m) {V : Nat → Prop} :
    Calls Try.prog 14 #[.agg #[.slice AN kN cN, .slice AW nW cW], .int .i64 s, .int .u16 to] w
      fun e w' => ∃ v N, e = .returned v ∧ PutQ 0 (next.set s (toldF s (keepF s to wait).length to (keepF s to wait)).1) (toldF s (keepF s to wait).length to (keepF s to wait)).2.1 (toldF s (keepF s to wait).length to (keepF s to wait)).2.2 v N ∧ New V N w w' := by
  have lN := hN.len
  have lW := hW.len
  refine enterW (fun _ => False) _ Try.func14 rfl (by simp only [Try.ntmps14, List.length_cons, List.length_nil, Nat.reduceAdd, Nat.reduceSub]; rfl) ?_
  refine WC.addVw u16c_len hN ?_
  refine WC.addVw Msg.cs_len hW ?_
  refine WC.vwAt 1 rfl (by omega) fun bN oN' hA => ?_
  subst hA
  have hgx : PartAt (flat u16c next) (s * 1) [.int .u16 x] := PartAt.flat u16c_len hx
  repeat' (first
    | with_reducible refine WL.nil ?_
    | with_reducible refine WQ.thenN ?_
    | with_reducible refine WQ.code ?_
    | with_reducible refine WC.seq ?_
    | with_reducible refine WC.region ?_
    | ((with_reducible refine WL.isN_move ?_); first | refine WL.yld rfl (Yld.pure rfl nrmQ) ?_)
    | ((with_reducible refine WK.isN_move ?_); first | refine WK.yld rfl (Yld.pure rfl nrmQ) ?_)
    | ((with_reducible refine WL.isN_assign ?_); first | refine WL.yld rfl (Yld.pure rfl nrmQ) ?_)
    | ((with_reducible refine WK.isN_assign ?_); first | refine WK.yld rfl (Yld.pure rfl nrmQ) ?_)
    | ((with_reducible refine WL.isN_bin ?_); first | refine WL.yld rfl (Yld.pure rfl nrmQ) ?_ | refine WL.yld rfl (Yld.rem rfl rfl rfl rfl (by omega) (by omega)) ?_ | refine WL.yld rfl (Yld.quo rfl rfl rfl rfl (by omega) (by omega) nrmQ) ?_ | refine WL.yld rfl (Yld.eqlB rfl rfl rfl rfl) ?_ | refine WL.yld rfl (Yld.neqB rfl rfl rfl rfl) ?_ | refine WL.yld rfl (Yld.eqlA 4 rfl rfl rfl (by kernel_rfl) (by kernel_rfl) rfl rfl) ?_ | refine WL.yld rfl (Yld.neqA 4 rfl rfl rfl (by kernel_rfl) (by kernel_rfl) rfl rfl) ?_ | refine WL.yld rfl (Yld.quoT rfl rfl rfl rfl (by omega) nrmQ) ?_)
    | ((with_reducible refine WK.isN_bin ?_); first | refine WK.yld rfl (Yld.pure rfl nrmQ) ?_ | refine WK.yld rfl (Yld.rem rfl rfl rfl rfl (by omega) (by omega)) ?_ | refine WK.yld rfl (Yld.quo rfl rfl rfl rfl (by omega) (by omega) nrmQ) ?_ | refine WK.yld rfl (Yld.eqlB rfl rfl rfl rfl) ?_ | refine WK.yld rfl (Yld.neqB rfl rfl rfl rfl) ?_ | refine WK.yld rfl (Yld.eqlA 4 rfl rfl rfl (by kernel_rfl) (by kernel_rfl) rfl rfl) ?_ | refine WK.yld rfl (Yld.neqA 4 rfl rfl rfl (by kernel_rfl) (by kernel_rfl) rfl rfl) ?_ | refine WK.yld rfl (Yld.quoT rfl rfl rfl rfl (by omega) nrmQ) ?_)
    | ((with_reducible refine WL.isN_extract ?_); first | refine WL.yld rfl (Yld.pure rfl nrmQ) ?_)
    | ((with_reducible refine WK.isN_extract ?_); first | refine WK.yld rfl (Yld.pure rfl nrmQ) ?_)
    | ((with_reducible refine WL.isN_load ?_); first | refine WL.yld rfl (Yld.load rfl rfl rfl rfl cellQ) ?_ | refine WL.yld rfl (Yld.loadAgg rfl rfl rfl rfl rfl aggQ) ?_)
    | ((with_reducible refine WK.isN_load ?_); first | refine WK.yld rfl (Yld.load rfl rfl rfl rfl cellQ) ?_ | refine WK.yld rfl (Yld.loadAgg rfl rfl rfl rfl rfl aggQ) ?_)
    | ((with_reducible refine WL.isN_faddr ?_); first | refine WL.yld rfl (Yld.fieldAddr rfl rfl rfl rfl rfl rfl rfl) ?_)
    | ((with_reducible refine WK.isN_faddr ?_); first | refine WK.yld rfl (Yld.fieldAddr rfl rfl rfl rfl rfl rfl rfl) ?_)
    | ((with_reducible refine WL.isN_iaddr ?_); first | refine WL.yld rfl (Yld.indexS 0 rfl rfl rfl rfl rfl rfl (by omega)) ?_ | refine WL.yld rfl (Yld.indexS 1 rfl rfl rfl rfl rfl rfl (by omega)) ?_ | refine WL.yld rfl (Yld.indexS 2 rfl rfl rfl rfl rfl rfl (by omega)) ?_ | refine WL.yld rfl (Yld.indexS _ rfl rfl rfl rfl rfl rfl (by omega)) ?_ | refine WL.yld rfl (Yld.indexA 0 rfl rfl rfl rfl rfl rfl (by omega)) ?_ | refine WL.yld rfl (Yld.indexA 1 rfl rfl rfl rfl rfl rfl (by omega)) ?_ | refine WL.yld rfl (Yld.indexA _ rfl rfl rfl rfl rfl rfl (by omega)) ?_)
    | ((with_reducible refine WK.isN_iaddr ?_); first | refine WK.yld rfl (Yld.indexS 0 rfl rfl rfl rfl rfl rfl (by omega)) ?_ | refine WK.yld rfl (Yld.indexS 1 rfl rfl rfl rfl rfl rfl (by omega)) ?_ | refine WK.yld rfl (Yld.indexS 2 rfl rfl rfl rfl rfl rfl (by omega)) ?_ | refine WK.yld rfl (Yld.indexS _ rfl rfl rfl rfl rfl rfl (by omega)) ?_ | refine WK.yld rfl (Yld.indexA 0 rfl rfl rfl rfl rfl rfl (by omega)) ?_ | refine WK.yld rfl (Yld.indexA 1 rfl rfl rfl rfl rfl rfl (by omega)) ?_ | refine WK.yld rfl (Yld.indexA _ rfl rfl rfl rfl rfl rfl (by omega)) ?_)
    | ((with_reducible refine WL.isN_conv ?_); first | refine WL.yld rfl (Yld.convInt rfl rfl rfl rfl nrmQ) ?_)
    | ((with_reducible refine WK.isN_conv ?_); first | refine WK.yld rfl (Yld.convInt rfl rfl rfl rfl nrmQ) ?_)
    | ((with_reducible refine WL.isN_build ?_); first | refine WL.yld rfl (Yld.build rfl rfl rfl) ?_)
    | ((with_reducible refine WK.isN_build ?_); first | refine WK.yld rfl (Yld.build rfl rfl rfl) ?_)
    | ((with_reducible refine WL.isN_pick ?_); first | refine WL.yld rfl (Yld.pickT rfl rfl rfl) ?_ | refine WL.yld rfl (Yld.pickF rfl rfl rfl) ?_ | refine WL.yld rfl (Yld.pickTh rfl rfl gdQ rfl) ?_ | refine WL.yld rfl (Yld.pickFh rfl rfl gdQ rfl) ?_ | refine WL.yld rfl (Yld.pickB rfl rfl rfl rfl) ?_)
    | ((with_reducible refine WK.isN_pick ?_); first | refine WK.yld rfl (Yld.pickT rfl rfl rfl) ?_ | refine WK.yld rfl (Yld.pickF rfl rfl rfl) ?_ | refine WK.yld rfl (Yld.pickTh rfl rfl gdQ rfl) ?_ | refine WK.yld rfl (Yld.pickFh rfl rfl gdQ rfl) ?_ | refine WK.yld rfl (Yld.pickB rfl rfl rfl rfl) ?_)
    | ((with_reducible refine WL.isN_func ?_); first | refine WL.yld rfl (Yld.func rfl rfl rfl) ?_)
    | ((with_reducible refine WK.isN_func ?_); first | refine WK.yld rfl (Yld.func rfl rfl rfl) ?_)
    | ((with_reducible refine WL.isN_call ?_); first | refine WK.step rfl (Qui.call (v := .bool false) (us := [.int .u16 to, .int .u16 x]) rfl rfl rfl (by kernel_rfl) (fun w _ => hl ▸ late_c to x w)) ?_ | refine WL.yld rfl (Yld.lenSlice rfl rfl rfl) ?_ | refine WL.yld rfl (Yld.lenStr rfl rfl rfl) ?_)
    | ((with_reducible refine WK.isN_call ?_); first | refine WK.step rfl (Qui.call (v := .bool false) (us := [.int .u16 to, .int .u16 x]) rfl rfl rfl (by kernel_rfl) (fun w _ => hl ▸ late_c to x w)) ?_ | refine WK.yld rfl (Yld.lenSlice rfl rfl rfl) ?_ | refine WK.yld rfl (Yld.lenStr rfl rfl rfl) ?_)
    | ((with_reducible refine WL.isT ?_); first | refine WL.skipT rfl rfl rfl rfl gdQ ?_ | refine WL.skipU rfl rfl rfl rfl ?_ | refine WL.runT rfl rfl rfl gdQ ?_ | (refine WL.cases rfl rfl rfl (fun hg => ?_) (fun hg => ?_) <;> (try first | (with_reducible replace hg := of_decide_eq_true hg) | (with_reducible replace hg := of_decide_eq_false hg) | (with_reducible replace hg := eqT hg) | (with_reducible replace hg := eqF hg) | (with_reducible replace hg := neT hg) | (with_reducible replace hg := neF hg) | (with_reducible replace hg := noT hg) | (with_reducible replace hg := noF hg)) <;> (try (exfalso; omega))))
    | ((with_reducible refine WK.isT ?_); first | refine WK.skipT rfl rfl rfl rfl gdQ ?_ | refine WK.skipU rfl rfl rfl rfl ?_ | refine WK.runT rfl rfl rfl gdQ ?_ | (refine WK.cases rfl rfl rfl (fun hg => ?_) (fun hg => ?_) <;> (try first | (with_reducible replace hg := of_decide_eq_true hg) | (with_reducible replace hg := of_decide_eq_false hg) | (with_reducible replace hg := eqT hg) | (with_reducible replace hg := eqF hg) | (with_reducible replace hg := neT hg) | (with_reducible replace hg := neF hg) | (with_reducible replace hg := noT hg) | (with_reducible replace hg := noF hg)) <;> (try (exfalso; omega))))
    | ((with_reducible refine WL.isF ?_); first | refine WL.skipF rfl rfl rfl rfl gdQ ?_ | refine WL.skipU rfl rfl rfl rfl ?_ | refine WL.runF rfl rfl rfl gdQ ?_ | (refine WL.cases rfl rfl rfl (fun hg => ?_) (fun hg => ?_) <;> (try first | (with_reducible replace hg := of_decide_eq_true hg) | (with_reducible replace hg := of_decide_eq_false hg) | (with_reducible replace hg := eqT hg) | (with_reducible replace hg := eqF hg) | (with_reducible replace hg := neT hg) | (with_reducible replace hg := neF hg) | (with_reducible replace hg := noT hg) | (with_reducible replace hg := noF hg)) <;> (try (exfalso; omega))))
    | ((with_reducible refine WK.isF ?_); first | refine WK.skipF rfl rfl rfl rfl gdQ ?_ | refine WK.skipU rfl rfl rfl rfl ?_ | refine WK.runF rfl rfl rfl gdQ ?_ | (refine WK.cases rfl rfl rfl (fun hg => ?_) (fun hg => ?_) <;> (try first | (with_reducible replace hg := of_decide_eq_true hg) | (with_reducible replace hg := of_decide_eq_false hg) | (with_reducible replace hg := eqT hg) | (with_reducible replace hg := eqF hg) | (with_reducible replace hg := neT hg) | (with_reducible replace hg := neF hg) | (with_reducible replace hg := noT hg) | (with_reducible replace hg := noF hg)) <;> (try (exfalso; omega))))
    | ((with_reducible refine WL.isN_box ?_); first | refine WL.step rfl (StepTo.boxA rfl rfl rfl rfl (fun _ => ?_)) | refine WL.step rfl (StepTo.box1 rfl rfl rfl rfl rfl (fun _ => ?_)))
    | ((with_reducible refine WL.isN_alloc ?_); first | refine WL.step rfl (StepTo.allocA rfl rfl rfl rfl (fun _ => ?_)) | refine WL.step rfl (StepTo.alloc1 rfl rfl rfl rfl rfl (fun _ => ?_)))
    | ((with_reducible refine WL.isN_store ?_); first | refine WL.step rfl (StepTo.store1 0 rfl rfl rfl rfl rfl rfl rfl overQ setQ ?_) | refine WL.step rfl (StepTo.storeA 0 rfl rfl rfl rfl rfl rfl rfl rfl overQ setQ ?_) | refine WL.step rfl (StepTo.storeRow 0 rfl rfl rfl rfl rfl rfl rfl rfl (by omega) setQ ?_) | refine WL.step rfl (StepTo.store1 1 rfl rfl rfl rfl rfl rfl rfl overQ setQ ?_) | refine WL.step rfl (StepTo.storeA 1 rfl rfl rfl rfl rfl rfl rfl rfl overQ setQ ?_) | refine WL.step rfl (StepTo.storeRow 1 rfl rfl rfl rfl rfl rfl rfl rfl (by omega) setQ ?_) | refine WL.step rfl (StepTo.store1 2 rfl rfl rfl rfl rfl rfl rfl overQ setQ ?_) | refine WL.step rfl (StepTo.storeA 2 rfl rfl rfl rfl rfl rfl rfl rfl overQ setQ ?_) | refine WL.step rfl (StepTo.storeRow 2 rfl rfl rfl rfl rfl rfl rfl rfl (by omega) setQ ?_) | refine WL.step rfl (StepTo.store1 3 rfl rfl rfl rfl rfl rfl rfl overQ setQ ?_) | refine WL.step rfl (StepTo.storeA 3 rfl rfl rfl rfl rfl rfl rfl rfl overQ setQ ?_) | refine WL.step rfl (StepTo.storeRow 3 rfl rfl rfl rfl rfl rfl rfl rfl (by omega) setQ ?_) | refine WL.step rfl (StepTo.store1 4 rfl rfl rfl rfl rfl rfl rfl overQ setQ ?_) | refine WL.step rfl (StepTo.storeA 4 rfl rfl rfl rfl rfl rfl rfl rfl overQ setQ ?_) | refine WL.step rfl (StepTo.storeRow 4 rfl rfl rfl rfl rfl rfl rfl rfl (by omega) setQ ?_) | refine WL.step rfl (StepTo.store1 5 rfl rfl rfl rfl rfl rfl rfl overQ setQ ?_) | refine WL.step rfl (StepTo.storeA 5 rfl rfl rfl rfl rfl rfl rfl rfl overQ setQ ?_) | refine WL.step rfl (StepTo.storeRow 5 rfl rfl rfl rfl rfl rfl rfl rfl (by omega) setQ ?_) | refine WL.step rfl (StepTo.store1 6 rfl rfl rfl rfl rfl rfl rfl overQ setQ ?_) | refine WL.step rfl (StepTo.storeA 6 rfl rfl rfl rfl rfl rfl rfl rfl overQ setQ ?_) | refine WL.step rfl (StepTo.storeRow 6 rfl rfl rfl rfl rfl rfl rfl rfl (by omega) setQ ?_) | refine WL.step rfl (StepTo.store1 7 rfl rfl rfl rfl rfl rfl rfl overQ setQ ?_) | refine WL.step rfl (StepTo.storeA 7 rfl rfl rfl rfl rfl rfl rfl rfl overQ setQ ?_) | refine WL.step rfl (StepTo.storeRow 7 rfl rfl rfl rfl rfl rfl rfl rfl (by omega) setQ ?_) | refine WL.step rfl (StepTo.store1 8 rfl rfl rfl rfl rfl rfl rfl overQ setQ ?_) | refine WL.step rfl (StepTo.storeA 8 rfl rfl rfl rfl rfl rfl rfl rfl overQ setQ ?_) | refine WL.step rfl (StepTo.storeRow 8 rfl rfl rfl rfl rfl rfl rfl rfl (by omega) setQ ?_) | refine WL.step rfl (StepTo.store1 9 rfl rfl rfl rfl rfl rfl rfl overQ setQ ?_) | refine WL.step rfl (StepTo.storeA 9 rfl rfl rfl rfl rfl rfl rfl rfl overQ setQ ?_) | refine WL.step rfl (StepTo.storeRow 9 rfl rfl rfl rfl rfl rfl rfl rfl (by omega) setQ ?_) | refine WL.step rfl (StepTo.store1 10 rfl rfl rfl rfl rfl rfl rfl overQ setQ ?_) | refine WL.step rfl (StepTo.storeA 10 rfl rfl rfl rfl rfl rfl rfl rfl overQ setQ ?_) | refine WL.step rfl (StepTo.storeRow 10 rfl rfl rfl rfl rfl rfl rfl rfl (by omega) setQ ?_) | refine WL.step rfl (StepTo.store1 11 rfl rfl rfl rfl rfl rfl rfl overQ setQ ?_) | refine WL.step rfl (StepTo.storeA 11 rfl rfl rfl rfl rfl rfl rfl rfl overQ setQ ?_) | refine WL.step rfl (StepTo.storeRow 11 rfl rfl rfl rfl rfl rfl rfl rfl (by omega) setQ ?_))
    | with_reducible refine WC.block ?_
    | with_reducible refine WC.scope ?_
    | with_reducible refine WC.label ?_
    | with_reducible refine WQ.ngN ?_
    | with_reducible refine WQ.ngR ?_
    | with_reducible refine WQ.ngX ?_
    | with_reducible refine WC.skip ?_
    | with_reducible refine WC.ret ?_
    | with_reducible refine WC.exit ?_
    | with_reducible refine WQ.thenR ?_
    | with_reducible refine WQ.thenX ?_
    | with_reducible refine WQ.blkN ?_
    | with_reducible refine WQ.blkR ?_
    | ((with_reducible refine WQ.blkX ?_ ?_); focus rfl)
    | ((with_reducible refine WQ.blkY ?_ ?_); focus rfl)
    | (refine WC.quiet (i := 3) (by kernel_rfl) (by kernel_rfl) ?_)
    | with_reducible refine WK.nil ?_
    | refine WC.condT rfl ?_
    | refine WC.condF rfl ?_
    | refine WC.condTh rfl gdQ ?_
    | refine WC.condFh rfl gdQ ?_
    | (refine WC.cond rfl (fun hc => ?_) (fun hc => ?_) <;> (try first | (with_reducible replace hc := of_decide_eq_true hc) | (with_reducible replace hc := of_decide_eq_false hc) | (with_reducible replace hc := eqT hc) | (with_reducible replace hc := eqF hc) | (with_reducible replace hc := neT hc) | (with_reducible replace hc := neF hc) | (with_reducible replace hc := noT hc) | (with_reducible replace hc := noF hc)) <;> (try (exfalso; omega))))
  rename_i bq bs bt br
  generalize hM : keepF s to wait = M
  refine WC.cut (fun τ H => ∃ b9 A7 c7 A9 c9, τ = [(4, .pointer (some ⟨bs, 0, none⟩)), (5, .pointer (some ⟨bt, 0, none⟩)), (6, .pointer (some ⟨br, 0, none⟩)), (9, .pointer (some ⟨b9, 0, none⟩))] ∧
      H = [.box b9 27 [.slice A7 kN c7, .slice A9 M.length c9], .row A7 kN c7 31 1 (flat u16c next), .row A9 M.length c9 38 6 (flat Msg.cs M), .box bs 3 [.int .i64 s], .box bt 31 [.int .u16 to], .box br 27 [.slice none 0 0, .slice none 0 0]]) ?_ ?_
  refine WC.anyI [3] (by kernel_rfl) ?_
  refine WA.take (idx := [3]) 0 rfl (by kernel_rfl) (by kernel_rfl) (by kernel_rfl) rfl ⟨by decide, rfl⟩ (Yld.fieldAddr rfl rfl rfl rfl rfl rfl rfl) ?_
  refine WA.take (idx := [3]) 1 rfl (by kernel_rfl) (by kernel_rfl) (by kernel_rfl) rfl ⟨by decide, rfl⟩ (by first | exact Yld.load rfl rfl rfl rfl cellQ | exact Yld.loadAgg rfl rfl rfl rfl rfl aggQ) ?_
  refine WA.take (idx := [3]) 3 rfl (by kernel_rfl) (by kernel_rfl) (by kernel_rfl) rfl ⟨by decide, rfl⟩ (Yld.fieldAddr rfl rfl rfl rfl rfl rfl rfl) ?_
  refine WA.take (idx := [3]) 4 rfl (by kernel_rfl) (by kernel_rfl) (by kernel_rfl) rfl ⟨by decide, rfl⟩ (by first | exact Yld.load rfl rfl rfl rfl cellQ | exact Yld.loadAgg rfl rfl rfl rfl rfl aggQ) ?_
  refine WA.take (idx := [3]) 6 rfl (by kernel_rfl) (by kernel_rfl) (by kernel_rfl) rfl ⟨by decide, rfl⟩ (Yld.func rfl rfl rfl) ?_
  refine WA.two 2 9 (by kernel_rfl) rfl rfl rfl rfl ?_ ?_
  · refine StepTo.callN [] (us := [.slice (some ⟨bN, oN', none⟩) kN cN]) rfl rfl rfl rfl rfl (by kernel_rfl) (fun w hw => cloneU_w _ kN cN next w (hw.lst 5 u16c_len (by omega) rfl) (by omega) oN) ?_
    rintro v N ⟨A7, c7, rfl, rfl⟩
    refine ⟨⟨[4], by decide, rfl⟩, ?_⟩
    refine WA.two 5 9 (by kernel_rfl) rfl rfl rfl rfl ?_ ?_
    · refine StepTo.callN [] (us := [.slice AW nW cW]) rfl rfl rfl rfl rfl (by kernel_rfl) (fun w hw => cloneM_w _ nW cW wait w (hw.lst 5 Msg.cs_len (by omega) rfl) (by omega) oW) ?_
      rintro v N ⟨A8, c8, rfl, rfl⟩
      refine ⟨⟨[5], by decide, rfl⟩, ?_⟩
      refine WA.two 7 9 (by kernel_rfl) rfl rfl rfl rfl ?_ ?_
      · refine StepTo.callP (us := [.slice A8 nW c8, .func (.func 30) #[] #[.pointer (some ⟨bs, 0, none⟩), .pointer (some ⟨bt, 0, none⟩)]]) [0] [1, 2, 3, 4, 5, 6, 7] ⟨by decide, rfl⟩ rfl ⟨by decide, rfl⟩ rfl rfl rfl rfl rfl rfl (by kernel_rfl) (fun w hw hS => delete_w A8 nW c8 wait 30 [.pointer (some ⟨bs, 0, none⟩), .pointer (some ⟨bt, 0, none⟩)] _ w hS lW hu (by omega) (skip_pred hw 4 3 0 rfl rfl rfl (by decide) (by decide)) (by kernel_rfl)) ?_
        rintro v N ⟨k9, hk9, rfl, rfl⟩
        have hk9' : k9 = M.length := by rw [hk9, ← hM]; rfl
        subst hk9'
        refine ⟨⟨[5], by decide, rfl⟩, ?_⟩
        refine WA.take (idx := [5]) 8 rfl (by kernel_rfl) (by kernel_rfl) (by kernel_rfl) rfl ⟨by decide, rfl⟩ (Yld.build rfl rfl rfl) ?_
        refine WA.one 9 (by kernel_rfl) rfl rfl ?_
        first | refine StepTo.allocA rfl rfl rfl rfl (fun _ => ⟨⟨[6], by decide, rfl⟩, ?_⟩) | refine StepTo.alloc1 rfl rfl rfl rfl rfl (fun _ => ⟨⟨[6], by decide, rfl⟩, ?_⟩)
        refine WA.one 10 (by kernel_rfl) rfl rfl ?_
        first | refine StepTo.storeA 0 rfl rfl rfl rfl rfl rfl rfl rfl overQ setQ ⟨⟨[6], by decide, rfl⟩, ?_⟩ | refine StepTo.store1 0 rfl rfl rfl rfl rfl rfl rfl overQ setQ ⟨⟨[6], by decide, rfl⟩, ?_⟩
        refine WA.done (by kernel_rfl) ?_
        exact WQ.thenN (WQ.met _ _ [0, 2, 1, 5, 4, 3] (by repeat (first | exact Sub.nil | refine Sub.cons rfl ?_ | refine Sub.consE rfl (int_eq (by omega)) ?_)) ⟨by decide, by rw [← hM]; rfl⟩ ⟨_, A7, c7, A8, c8, rfl, rfl⟩)
      · first | refine StepTo.allocA rfl rfl rfl rfl (fun _ => ⟨⟨[6], by decide, rfl⟩, ?_⟩) | refine StepTo.alloc1 rfl rfl rfl rfl rfl (fun _ => ⟨⟨[6], by decide, rfl⟩, ?_⟩)
        refine WA.one 7 (by kernel_rfl) rfl rfl ?_
        refine StepTo.callP (us := [.slice A8 nW c8, .func (.func 30) #[] #[.pointer (some ⟨bs, 0, none⟩), .pointer (some ⟨bt, 0, none⟩)]]) [1] [0, 2, 3, 4, 5, 6, 7, 8] ⟨by decide, rfl⟩ rfl ⟨by decide, rfl⟩ rfl rfl rfl rfl rfl rfl (by kernel_rfl) (fun w hw hS => delete_w A8 nW c8 wait 30 [.pointer (some ⟨bs, 0, none⟩), .pointer (some ⟨bt, 0, none⟩)] _ w hS lW hu (by omega) (skip_pred hw 5 4 1 rfl rfl rfl (by decide) (by decide)) (by kernel_rfl)) ?_
        rintro v N ⟨k9, hk9, rfl, rfl⟩
        have hk9' : k9 = M.length := by rw [hk9, ← hM]; rfl
        subst hk9'
        refine ⟨⟨[6], by decide, rfl⟩, ?_⟩
        refine WA.take (idx := [6]) 8 rfl (by kernel_rfl) (by kernel_rfl) (by kernel_rfl) rfl ⟨by decide, rfl⟩ (Yld.build rfl rfl rfl) ?_
        refine WA.one 10 (by kernel_rfl) rfl rfl ?_
        first | refine StepTo.storeA 1 rfl rfl rfl rfl rfl rfl rfl rfl overQ setQ ⟨⟨[6], by decide, rfl⟩, ?_⟩ | refine StepTo.store1 1 rfl rfl rfl rfl rfl rfl rfl overQ setQ ⟨⟨[6], by decide, rfl⟩, ?_⟩
        refine WA.done (by kernel_rfl) ?_
        exact WQ.thenN (WQ.met _ _ [1, 2, 0, 5, 4, 3] (by repeat (first | exact Sub.nil | refine Sub.cons rfl ?_ | refine Sub.consE rfl (int_eq (by omega)) ?_)) ⟨by decide, by rw [← hM]; rfl⟩ ⟨_, A7, c7, A8, c8, rfl, rfl⟩)
    · first | refine StepTo.allocA rfl rfl rfl rfl (fun _ => ⟨⟨[5], by decide, rfl⟩, ?_⟩) | refine StepTo.alloc1 rfl rfl rfl rfl rfl (fun _ => ⟨⟨[5], by decide, rfl⟩, ?_⟩)
      refine WA.one 5 (by kernel_rfl) rfl rfl ?_
      refine StepTo.callN [] (us := [.slice AW nW cW]) rfl rfl rfl rfl rfl (by kernel_rfl) (fun w hw => cloneM_w _ nW cW wait w (hw.lst 6 Msg.cs_len (by omega) rfl) (by omega) oW) ?_
      rintro v N ⟨A8, c8, rfl, rfl⟩
      refine ⟨⟨[6], by decide, rfl⟩, ?_⟩
      refine WA.one 7 (by kernel_rfl) rfl rfl ?_
      refine StepTo.callP (us := [.slice A8 nW c8, .func (.func 30) #[] #[.pointer (some ⟨bs, 0, none⟩), .pointer (some ⟨bt, 0, none⟩)]]) [0] [1, 2, 3, 4, 5, 6, 7, 8] ⟨by decide, rfl⟩ rfl ⟨by decide, rfl⟩ rfl rfl rfl rfl rfl rfl (by kernel_rfl) (fun w hw hS => delete_w A8 nW c8 wait 30 [.pointer (some ⟨bs, 0, none⟩), .pointer (some ⟨bt, 0, none⟩)] _ w hS lW hu (by omega) (skip_pred hw 5 4 0 rfl rfl rfl (by decide) (by decide)) (by kernel_rfl)) ?_
      rintro v N ⟨k9, hk9, rfl, rfl⟩
      have hk9' : k9 = M.length := by rw [hk9, ← hM]; rfl
      subst hk9'
      refine ⟨⟨[6], by decide, rfl⟩, ?_⟩
      refine WA.take (idx := [6]) 8 rfl (by kernel_rfl) (by kernel_rfl) (by kernel_rfl) rfl ⟨by decide, rfl⟩ (Yld.build rfl rfl rfl) ?_
      refine WA.one 10 (by kernel_rfl) rfl rfl ?_
      first | refine StepTo.storeA 1 rfl rfl rfl rfl rfl rfl rfl rfl overQ setQ ⟨⟨[6], by decide, rfl⟩, ?_⟩ | refine StepTo.store1 1 rfl rfl rfl rfl rfl rfl rfl overQ setQ ⟨⟨[6], by decide, rfl⟩, ?_⟩
      refine WA.done (by kernel_rfl) ?_
      exact WQ.thenN (WQ.met _ _ [1, 2, 0, 5, 4, 3] (by repeat (first | exact Sub.nil | refine Sub.cons rfl ?_ | refine Sub.consE rfl (int_eq (by omega)) ?_)) ⟨by decide, by rw [← hM]; rfl⟩ ⟨_, A7, c7, A8, c8, rfl, rfl⟩)
  · first | refine StepTo.allocA rfl rfl rfl rfl (fun _ => ⟨⟨[4], by decide, rfl⟩, ?_⟩) | refine StepTo.alloc1 rfl rfl rfl rfl rfl (fun _ => ⟨⟨[4], by decide, rfl⟩, ?_⟩)
    refine WA.one 2 (by kernel_rfl) rfl rfl ?_
    refine StepTo.callN [] (us := [.slice (some ⟨bN, oN', none⟩) kN cN]) rfl rfl rfl rfl rfl (by kernel_rfl) (fun w hw => cloneU_w _ kN cN next w (hw.lst 6 u16c_len (by omega) rfl) (by omega) oN) ?_
    rintro v N ⟨A7, c7, rfl, rfl⟩
    refine ⟨⟨[5], by decide, rfl⟩, ?_⟩
    refine WA.one 5 (by kernel_rfl) rfl rfl ?_
    refine StepTo.callN [] (us := [.slice AW nW cW]) rfl rfl rfl rfl rfl (by kernel_rfl) (fun w hw => cloneM_w _ nW cW wait w (hw.lst 6 Msg.cs_len (by omega) rfl) (by omega) oW) ?_
    rintro v N ⟨A8, c8, rfl, rfl⟩
    refine ⟨⟨[6], by decide, rfl⟩, ?_⟩
    refine WA.one 7 (by kernel_rfl) rfl rfl ?_
    refine StepTo.callP (us := [.slice A8 nW c8, .func (.func 30) #[] #[.pointer (some ⟨bs, 0, none⟩), .pointer (some ⟨bt, 0, none⟩)]]) [0] [1, 2, 3, 4, 5, 6, 7, 8] ⟨by decide, rfl⟩ rfl ⟨by decide, rfl⟩ rfl rfl rfl rfl rfl rfl (by kernel_rfl) (fun w hw hS => delete_w A8 nW c8 wait 30 [.pointer (some ⟨bs, 0, none⟩), .pointer (some ⟨bt, 0, none⟩)] _ w hS lW hu (by omega) (skip_pred hw 5 4 0 rfl rfl rfl (by decide) (by decide)) (by kernel_rfl)) ?_
    rintro v N ⟨k9, hk9, rfl, rfl⟩
    have hk9' : k9 = M.length := by rw [hk9, ← hM]; rfl
    subst hk9'
    refine ⟨⟨[6], by decide, rfl⟩, ?_⟩
    refine WA.take (idx := [6]) 8 rfl (by kernel_rfl) (by kernel_rfl) (by kernel_rfl) rfl ⟨by decide, rfl⟩ (Yld.build rfl rfl rfl) ?_
    refine WA.one 10 (by kernel_rfl) rfl rfl ?_
    first | refine StepTo.storeA 2 rfl rfl rfl rfl rfl rfl rfl rfl overQ setQ ⟨⟨[6], by decide, rfl⟩, ?_⟩ | refine StepTo.store1 2 rfl rfl rfl rfl rfl rfl rfl overQ setQ ⟨⟨[6], by decide, rfl⟩, ?_⟩
    refine WA.done (by kernel_rfl) ?_
    exact WQ.thenN (WQ.met _ _ [2, 1, 0, 5, 4, 3] (by repeat (first | exact Sub.nil | refine Sub.cons rfl ?_ | refine Sub.consE rfl (int_eq (by omega)) ?_)) ⟨by decide, by rw [← hM]; rfl⟩ ⟨_, A7, c7, A8, c8, rfl, rfl⟩)
  rintro τ H ⟨b9, A7, c7, A9, c9, rfl, rfl⟩
  have hfl : (flat u16c next).length = kN := by rw [flat_len u16c_len, lN, Nat.mul_one]
  have hset : (flat u16c next).set (0 + s * 1) (.int .u16 to) = flat u16c (next.set s to) := by rw [Nat.zero_add, Nat.mul_one, ← flat_setU]
  have hxs : (next.set s to)[s]? = some to := List.getElem?_set_self (by omega)
  have hml : M.length ≤ nW := by rw [← hM, ← lW]; exact List.length_filter_le _ _
  refine WC.rowAt 1 rfl (by omega) fun gN hg => ?_
  subst hg
  repeat' (first
    | with_reducible refine WL.nil ?_
    | with_reducible refine WQ.thenN ?_
    | with_reducible refine WQ.code ?_
    | with_reducible refine WC.seq ?_
    | with_reducible refine WC.region ?_
    | ((with_reducible refine WL.isN_move ?_); first | refine WL.yld rfl (Yld.pure rfl nrmQ) ?_)
    | ((with_reducible refine WL.isN_assign ?_); first | refine WL.yld rfl (Yld.pure rfl nrmQ) ?_)
    | ((with_reducible refine WL.isN_bin ?_); first | refine WL.yld rfl (Yld.pure rfl nrmQ) ?_ | refine WL.yld rfl (Yld.rem rfl rfl rfl rfl (by omega) (by omega)) ?_ | refine WL.yld rfl (Yld.quo rfl rfl rfl rfl (by omega) (by omega) nrmQ) ?_ | refine WL.yld rfl (Yld.eqlB rfl rfl rfl rfl) ?_ | refine WL.yld rfl (Yld.neqB rfl rfl rfl rfl) ?_ | refine WL.yld rfl (Yld.eqlA 4 rfl rfl rfl (by kernel_rfl) (by kernel_rfl) rfl rfl) ?_ | refine WL.yld rfl (Yld.neqA 4 rfl rfl rfl (by kernel_rfl) (by kernel_rfl) rfl rfl) ?_ | refine WL.yld rfl (Yld.quoT rfl rfl rfl rfl (by omega) nrmQ) ?_)
    | ((with_reducible refine WL.isN_extract ?_); first | refine WL.yld rfl (Yld.pure rfl nrmQ) ?_)
    | ((with_reducible refine WL.isN_load ?_); first | refine WL.yld rfl (Yld.load rfl rfl rfl rfl cellQ) ?_ | refine WL.yld rfl (Yld.loadAgg rfl rfl rfl rfl rfl aggQ) ?_)
    | ((with_reducible refine WL.isN_faddr ?_); first | refine WL.yld rfl (Yld.fieldAddr rfl rfl rfl rfl rfl rfl rfl) ?_)
    | ((with_reducible refine WL.isN_iaddr ?_); first | refine WL.yld rfl (Yld.indexS 0 rfl rfl rfl rfl rfl rfl (by omega)) ?_ | refine WL.yld rfl (Yld.indexS 1 rfl rfl rfl rfl rfl rfl (by omega)) ?_ | refine WL.yld rfl (Yld.indexS 2 rfl rfl rfl rfl rfl rfl (by omega)) ?_ | refine WL.yld rfl (Yld.indexS _ rfl rfl rfl rfl rfl rfl (by omega)) ?_ | refine WL.yld rfl (Yld.indexA 0 rfl rfl rfl rfl rfl rfl (by omega)) ?_ | refine WL.yld rfl (Yld.indexA 1 rfl rfl rfl rfl rfl rfl (by omega)) ?_ | refine WL.yld rfl (Yld.indexA _ rfl rfl rfl rfl rfl rfl (by omega)) ?_)
    | ((with_reducible refine WL.isN_conv ?_); first | refine WL.yld rfl (Yld.convInt rfl rfl rfl rfl nrmQ) ?_)
    | ((with_reducible refine WL.isN_build ?_); first | refine WL.yld rfl (Yld.build rfl rfl rfl) ?_)
    | ((with_reducible refine WL.isN_pick ?_); first | refine WL.yld rfl (Yld.pickT rfl rfl rfl) ?_ | refine WL.yld rfl (Yld.pickF rfl rfl rfl) ?_ | refine WL.yld rfl (Yld.pickTh rfl rfl gdQ rfl) ?_ | refine WL.yld rfl (Yld.pickFh rfl rfl gdQ rfl) ?_ | refine WL.yld rfl (Yld.pickB rfl rfl rfl rfl) ?_)
    | ((with_reducible refine WL.isN_func ?_); first | refine WL.yld rfl (Yld.func rfl rfl rfl) ?_)
    | ((with_reducible refine WL.isN_call ?_); first | refine WL.yld rfl (Yld.lenSlice rfl rfl rfl) ?_ | refine WL.yld rfl (Yld.lenStr rfl rfl rfl) ?_)
    | ((with_reducible refine WL.isT ?_); first | refine WL.skipT rfl rfl rfl rfl gdQ ?_ | refine WL.skipU rfl rfl rfl rfl ?_ | refine WL.runT rfl rfl rfl gdQ ?_ | (refine WL.cases rfl rfl rfl (fun hg => ?_) (fun hg => ?_) <;> (try first | (with_reducible replace hg := of_decide_eq_true hg) | (with_reducible replace hg := of_decide_eq_false hg) | (with_reducible replace hg := eqT hg) | (with_reducible replace hg := eqF hg) | (with_reducible replace hg := neT hg) | (with_reducible replace hg := neF hg) | (with_reducible replace hg := noT hg) | (with_reducible replace hg := noF hg)) <;> (try (exfalso; omega))))
    | ((with_reducible refine WL.isF ?_); first | refine WL.skipF rfl rfl rfl rfl gdQ ?_ | refine WL.skipU rfl rfl rfl rfl ?_ | refine WL.runF rfl rfl rfl gdQ ?_ | (refine WL.cases rfl rfl rfl (fun hg => ?_) (fun hg => ?_) <;> (try first | (with_reducible replace hg := of_decide_eq_true hg) | (with_reducible replace hg := of_decide_eq_false hg) | (with_reducible replace hg := eqT hg) | (with_reducible replace hg := eqF hg) | (with_reducible replace hg := neT hg) | (with_reducible replace hg := neF hg) | (with_reducible replace hg := noT hg) | (with_reducible replace hg := noF hg)) <;> (try (exfalso; omega))))
    | ((with_reducible refine WL.isN_box ?_); first | refine WL.step rfl (StepTo.boxA rfl rfl rfl rfl (fun _ => ?_)) | refine WL.step rfl (StepTo.box1 rfl rfl rfl rfl rfl (fun _ => ?_)))
    | ((with_reducible refine WL.isN_alloc ?_); first | refine WL.step rfl (StepTo.allocA rfl rfl rfl rfl (fun _ => ?_)) | refine WL.step rfl (StepTo.alloc1 rfl rfl rfl rfl rfl (fun _ => ?_)))
    | ((with_reducible refine WL.isN_store ?_); first | refine WL.step rfl (StepTo.store1 0 rfl rfl rfl rfl rfl rfl rfl overQ setQ ?_) | refine WL.step rfl (StepTo.storeA 0 rfl rfl rfl rfl rfl rfl rfl rfl overQ setQ ?_) | refine WL.step rfl (StepTo.storeRow 0 rfl rfl rfl rfl rfl rfl rfl rfl (by omega) setQ ?_) | refine WL.step rfl (StepTo.store1 1 rfl rfl rfl rfl rfl rfl rfl overQ setQ ?_) | refine WL.step rfl (StepTo.storeA 1 rfl rfl rfl rfl rfl rfl rfl rfl overQ setQ ?_) | refine WL.step rfl (StepTo.storeRow 1 rfl rfl rfl rfl rfl rfl rfl rfl (by omega) setQ ?_) | refine WL.step rfl (StepTo.store1 2 rfl rfl rfl rfl rfl rfl rfl overQ setQ ?_) | refine WL.step rfl (StepTo.storeA 2 rfl rfl rfl rfl rfl rfl rfl rfl overQ setQ ?_) | refine WL.step rfl (StepTo.storeRow 2 rfl rfl rfl rfl rfl rfl rfl rfl (by omega) setQ ?_) | refine WL.step rfl (StepTo.store1 3 rfl rfl rfl rfl rfl rfl rfl overQ setQ ?_) | refine WL.step rfl (StepTo.storeA 3 rfl rfl rfl rfl rfl rfl rfl rfl overQ setQ ?_) | refine WL.step rfl (StepTo.storeRow 3 rfl rfl rfl rfl rfl rfl rfl rfl (by omega) setQ ?_) | refine WL.step rfl (StepTo.store1 4 rfl rfl rfl rfl rfl rfl rfl overQ setQ ?_) | refine WL.step rfl (StepTo.storeA 4 rfl rfl rfl rfl rfl rfl rfl rfl overQ setQ ?_) | refine WL.step rfl (StepTo.storeRow 4 rfl rfl rfl rfl rfl rfl rfl rfl (by omega) setQ ?_) | refine WL.step rfl (StepTo.store1 5 rfl rfl rfl rfl rfl rfl rfl overQ setQ ?_) | refine WL.step rfl (StepTo.storeA 5 rfl rfl rfl rfl rfl rfl rfl rfl overQ setQ ?_) | refine WL.step rfl (StepTo.storeRow 5 rfl rfl rfl rfl rfl rfl rfl rfl (by omega) setQ ?_) | refine WL.step rfl (StepTo.store1 6 rfl rfl rfl rfl rfl rfl rfl overQ setQ ?_) | refine WL.step rfl (StepTo.storeA 6 rfl rfl rfl rfl rfl rfl rfl rfl overQ setQ ?_) | refine WL.step rfl (StepTo.storeRow 6 rfl rfl rfl rfl rfl rfl rfl rfl (by omega) setQ ?_) | refine WL.step rfl (StepTo.store1 7 rfl rfl rfl rfl rfl rfl rfl overQ setQ ?_) | refine WL.step rfl (StepTo.storeA 7 rfl rfl rfl rfl rfl rfl rfl rfl overQ setQ ?_) | refine WL.step rfl (StepTo.storeRow 7 rfl rfl rfl rfl rfl rfl rfl rfl (by omega) setQ ?_) | refine WL.step rfl (StepTo.store1 8 rfl rfl rfl rfl rfl rfl rfl overQ setQ ?_) | refine WL.step rfl (StepTo.storeA 8 rfl rfl rfl rfl rfl rfl rfl rfl overQ setQ ?_) | refine WL.step rfl (StepTo.storeRow 8 rfl rfl rfl rfl rfl rfl rfl rfl (by omega) setQ ?_) | refine WL.step rfl (StepTo.store1 9 rfl rfl rfl rfl rfl rfl rfl overQ setQ ?_) | refine WL.step rfl (StepTo.storeA 9 rfl rfl rfl rfl rfl rfl rfl rfl overQ setQ ?_) | refine WL.step rfl (StepTo.storeRow 9 rfl rfl rfl rfl rfl rfl rfl rfl (by omega) setQ ?_) | refine WL.step rfl (StepTo.store1 10 rfl rfl rfl rfl rfl rfl rfl overQ setQ ?_) | refine WL.step rfl (StepTo.storeA 10 rfl rfl rfl rfl rfl rfl rfl rfl overQ setQ ?_) | refine WL.step rfl (StepTo.storeRow 10 rfl rfl rfl rfl rfl rfl rfl rfl (by omega) setQ ?_) | refine WL.step rfl (StepTo.store1 11 rfl rfl rfl rfl rfl rfl rfl overQ setQ ?_) | refine WL.step rfl (StepTo.storeA 11 rfl rfl rfl rfl rfl rfl rfl rfl overQ setQ ?_) | refine WL.step rfl (StepTo.storeRow 11 rfl rfl rfl rfl rfl rfl rfl rfl (by omega) setQ ?_))
    | with_reducible refine WC.block ?_
    | with_reducible refine WC.scope ?_
    | with_reducible refine WC.label ?_
    | with_reducible refine WQ.ngN ?_
    | with_reducible refine WQ.ngR ?_
    | with_reducible refine WQ.ngX ?_
    | with_reducible refine WC.skip ?_
    | with_reducible refine WC.ret ?_
    | with_reducible refine WC.exit ?_
    | with_reducible refine WQ.thenR ?_
    | with_reducible refine WQ.thenX ?_
    | with_reducible refine WQ.blkN ?_
    | with_reducible refine WQ.blkR ?_
    | ((with_reducible refine WQ.blkX ?_ ?_); focus rfl)
    | ((with_reducible refine WQ.blkY ?_ ?_); focus rfl)
    | refine WC.condT rfl ?_
    | refine WC.condF rfl ?_
    | refine WC.condTh rfl gdQ ?_
    | refine WC.condFh rfl gdQ ?_
    | (refine WC.cond rfl (fun hc => ?_) (fun hc => ?_) <;> (try first | (with_reducible replace hc := of_decide_eq_true hc) | (with_reducible replace hc := of_decide_eq_false hc) | (with_reducible replace hc := eqT hc) | (with_reducible replace hc := eqF hc) | (with_reducible replace hc := neT hc) | (with_reducible replace hc := neF hc) | (with_reducible replace hc := noT hc) | (with_reducible replace hc := noF hc)) <;> (try (exfalso; omega))))
  rw [hset]
  repeat' (first
    | with_reducible refine WL.nil ?_
    | with_reducible refine WQ.thenN ?_
    | with_reducible refine WQ.code ?_
    | with_reducible refine WC.seq ?_
    | with_reducible refine WC.region ?_
    | ((with_reducible refine WL.isN_move ?_); first | refine WL.yld rfl (Yld.pure rfl nrmQ) ?_)
    | ((with_reducible refine WL.isN_assign ?_); first | refine WL.yld rfl (Yld.pure rfl nrmQ) ?_)
    | ((with_reducible refine WL.isN_bin ?_); first | refine WL.yld rfl (Yld.pure rfl nrmQ) ?_ | refine WL.yld rfl (Yld.rem rfl rfl rfl rfl (by omega) (by omega)) ?_ | refine WL.yld rfl (Yld.quo rfl rfl rfl rfl (by omega) (by omega) nrmQ) ?_ | refine WL.yld rfl (Yld.eqlB rfl rfl rfl rfl) ?_ | refine WL.yld rfl (Yld.neqB rfl rfl rfl rfl) ?_ | refine WL.yld rfl (Yld.eqlA 4 rfl rfl rfl (by kernel_rfl) (by kernel_rfl) rfl rfl) ?_ | refine WL.yld rfl (Yld.neqA 4 rfl rfl rfl (by kernel_rfl) (by kernel_rfl) rfl rfl) ?_ | refine WL.yld rfl (Yld.quoT rfl rfl rfl rfl (by omega) nrmQ) ?_)
    | ((with_reducible refine WL.isN_extract ?_); first | refine WL.yld rfl (Yld.pure rfl nrmQ) ?_)
    | ((with_reducible refine WL.isN_load ?_); first | refine WL.yld rfl (Yld.load rfl rfl rfl rfl cellQ) ?_ | refine WL.yld rfl (Yld.loadAgg rfl rfl rfl rfl rfl aggQ) ?_)
    | ((with_reducible refine WL.isN_faddr ?_); first | refine WL.yld rfl (Yld.fieldAddr rfl rfl rfl rfl rfl rfl rfl) ?_)
    | ((with_reducible refine WL.isN_iaddr ?_); first | refine WL.yld rfl (Yld.indexS 0 rfl rfl rfl rfl rfl rfl (by omega)) ?_ | refine WL.yld rfl (Yld.indexS 1 rfl rfl rfl rfl rfl rfl (by omega)) ?_ | refine WL.yld rfl (Yld.indexS 2 rfl rfl rfl rfl rfl rfl (by omega)) ?_ | refine WL.yld rfl (Yld.indexS _ rfl rfl rfl rfl rfl rfl (by omega)) ?_ | refine WL.yld rfl (Yld.indexA 0 rfl rfl rfl rfl rfl rfl (by omega)) ?_ | refine WL.yld rfl (Yld.indexA 1 rfl rfl rfl rfl rfl rfl (by omega)) ?_ | refine WL.yld rfl (Yld.indexA _ rfl rfl rfl rfl rfl rfl (by omega)) ?_)
    | ((with_reducible refine WL.isN_conv ?_); first | refine WL.yld rfl (Yld.convInt rfl rfl rfl rfl nrmQ) ?_)
    | ((with_reducible refine WL.isN_build ?_); first | refine WL.yld rfl (Yld.build rfl rfl rfl) ?_)
    | ((with_reducible refine WL.isN_pick ?_); first | refine WL.yld rfl (Yld.pickT rfl rfl rfl) ?_ | refine WL.yld rfl (Yld.pickF rfl rfl rfl) ?_ | refine WL.yld rfl (Yld.pickTh rfl rfl gdQ rfl) ?_ | refine WL.yld rfl (Yld.pickFh rfl rfl gdQ rfl) ?_ | refine WL.yld rfl (Yld.pickB rfl rfl rfl rfl) ?_)
    | ((with_reducible refine WL.isN_func ?_); first | refine WL.yld rfl (Yld.func rfl rfl rfl) ?_)
    | ((with_reducible refine WL.isN_call ?_); first | refine WL.step rfl (StepTo.callM (us := [.agg #[.slice (some ⟨gN, 0, none⟩) kN c7, .slice A9 M.length c9], .int .u16 s]) (R := ToldR gN kN c7 (next.set s to) s (toldF s M.length to M)) (fun b => b = gN ∨ A9.map (·.block) = some b) [0, 3, 4, 5] ⟨by decide, rfl⟩ (fun b hb => hb.elim (fun h => ⟨1, _, by decide, rfl, rfl, by rw [h]; rfl⟩) (fun h => ⟨2, _, by decide, rfl, rfl, h⟩)) rfl rfl rfl rfl rfl (by kernel_rfl) (fun w hw => told_w gN kN c7 M.length c9 s A9 (next.set s to) M to w hs hk (hw.holds _ (List.mem_of_getElem? (i := 1) rfl)) hxs h0 h1 (hw.holds _ (List.mem_of_getElem? (i := 2) rfl)) rfl (by omega)) ?_) | refine WL.yld rfl (Yld.lenSlice rfl rfl rfl) ?_ | refine WL.yld rfl (Yld.lenStr rfl rfl rfl) ?_)
    | ((with_reducible refine WL.isT ?_); first | refine WL.skipT rfl rfl rfl rfl gdQ ?_ | refine WL.skipU rfl rfl rfl rfl ?_ | refine WL.runT rfl rfl rfl gdQ ?_ | (refine WL.cases rfl rfl rfl (fun hg => ?_) (fun hg => ?_) <;> (try first | (with_reducible replace hg := of_decide_eq_true hg) | (with_reducible replace hg := of_decide_eq_false hg) | (with_reducible replace hg := eqT hg) | (with_reducible replace hg := eqF hg) | (with_reducible replace hg := neT hg) | (with_reducible replace hg := neF hg) | (with_reducible replace hg := noT hg) | (with_reducible replace hg := noF hg)) <;> (try (exfalso; omega))))
    | ((with_reducible refine WL.isF ?_); first | refine WL.skipF rfl rfl rfl rfl gdQ ?_ | refine WL.skipU rfl rfl rfl rfl ?_ | refine WL.runF rfl rfl rfl gdQ ?_ | (refine WL.cases rfl rfl rfl (fun hg => ?_) (fun hg => ?_) <;> (try first | (with_reducible replace hg := of_decide_eq_true hg) | (with_reducible replace hg := of_decide_eq_false hg) | (with_reducible replace hg := eqT hg) | (with_reducible replace hg := eqF hg) | (with_reducible replace hg := neT hg) | (with_reducible replace hg := neF hg) | (with_reducible replace hg := noT hg) | (with_reducible replace hg := noF hg)) <;> (try (exfalso; omega))))
    | ((with_reducible refine WL.isN_box ?_); first | refine WL.step rfl (StepTo.boxA rfl rfl rfl rfl (fun _ => ?_)) | refine WL.step rfl (StepTo.box1 rfl rfl rfl rfl rfl (fun _ => ?_)))
    | ((with_reducible refine WL.isN_alloc ?_); first | refine WL.step rfl (StepTo.allocA rfl rfl rfl rfl (fun _ => ?_)) | refine WL.step rfl (StepTo.alloc1 rfl rfl rfl rfl rfl (fun _ => ?_)))
    | ((with_reducible refine WL.isN_store ?_); first | refine WL.step rfl (StepTo.store1 0 rfl rfl rfl rfl rfl rfl rfl overQ setQ ?_) | refine WL.step rfl (StepTo.storeA 0 rfl rfl rfl rfl rfl rfl rfl rfl overQ setQ ?_) | refine WL.step rfl (StepTo.storeRow 0 rfl rfl rfl rfl rfl rfl rfl rfl (by omega) setQ ?_) | refine WL.step rfl (StepTo.store1 1 rfl rfl rfl rfl rfl rfl rfl overQ setQ ?_) | refine WL.step rfl (StepTo.storeA 1 rfl rfl rfl rfl rfl rfl rfl rfl overQ setQ ?_) | refine WL.step rfl (StepTo.storeRow 1 rfl rfl rfl rfl rfl rfl rfl rfl (by omega) setQ ?_) | refine WL.step rfl (StepTo.store1 2 rfl rfl rfl rfl rfl rfl rfl overQ setQ ?_) | refine WL.step rfl (StepTo.storeA 2 rfl rfl rfl rfl rfl rfl rfl rfl overQ setQ ?_) | refine WL.step rfl (StepTo.storeRow 2 rfl rfl rfl rfl rfl rfl rfl rfl (by omega) setQ ?_) | refine WL.step rfl (StepTo.store1 3 rfl rfl rfl rfl rfl rfl rfl overQ setQ ?_) | refine WL.step rfl (StepTo.storeA 3 rfl rfl rfl rfl rfl rfl rfl rfl overQ setQ ?_) | refine WL.step rfl (StepTo.storeRow 3 rfl rfl rfl rfl rfl rfl rfl rfl (by omega) setQ ?_) | refine WL.step rfl (StepTo.store1 4 rfl rfl rfl rfl rfl rfl rfl overQ setQ ?_) | refine WL.step rfl (StepTo.storeA 4 rfl rfl rfl rfl rfl rfl rfl rfl overQ setQ ?_) | refine WL.step rfl (StepTo.storeRow 4 rfl rfl rfl rfl rfl rfl rfl rfl (by omega) setQ ?_) | refine WL.step rfl (StepTo.store1 5 rfl rfl rfl rfl rfl rfl rfl overQ setQ ?_) | refine WL.step rfl (StepTo.storeA 5 rfl rfl rfl rfl rfl rfl rfl rfl overQ setQ ?_) | refine WL.step rfl (StepTo.storeRow 5 rfl rfl rfl rfl rfl rfl rfl rfl (by omega) setQ ?_) | refine WL.step rfl (StepTo.store1 6 rfl rfl rfl rfl rfl rfl rfl overQ setQ ?_) | refine WL.step rfl (StepTo.storeA 6 rfl rfl rfl rfl rfl rfl rfl rfl overQ setQ ?_) | refine WL.step rfl (StepTo.storeRow 6 rfl rfl rfl rfl rfl rfl rfl rfl (by omega) setQ ?_) | refine WL.step rfl (StepTo.store1 7 rfl rfl rfl rfl rfl rfl rfl overQ setQ ?_) | refine WL.step rfl (StepTo.storeA 7 rfl rfl rfl rfl rfl rfl rfl rfl overQ setQ ?_) | refine WL.step rfl (StepTo.storeRow 7 rfl rfl rfl rfl rfl rfl rfl rfl (by omega) setQ ?_) | refine WL.step rfl (StepTo.store1 8 rfl rfl rfl rfl rfl rfl rfl overQ setQ ?_) | refine WL.step rfl (StepTo.storeA 8 rfl rfl rfl rfl rfl rfl rfl rfl overQ setQ ?_) | refine WL.step rfl (StepTo.storeRow 8 rfl rfl rfl rfl rfl rfl rfl rfl (by omega) setQ ?_) | refine WL.step rfl (StepTo.store1 9 rfl rfl rfl rfl rfl rfl rfl overQ setQ ?_) | refine WL.step rfl (StepTo.storeA 9 rfl rfl rfl rfl rfl rfl rfl rfl overQ setQ ?_) | refine WL.step rfl (StepTo.storeRow 9 rfl rfl rfl rfl rfl rfl rfl rfl (by omega) setQ ?_) | refine WL.step rfl (StepTo.store1 10 rfl rfl rfl rfl rfl rfl rfl overQ setQ ?_) | refine WL.step rfl (StepTo.storeA 10 rfl rfl rfl rfl rfl rfl rfl rfl overQ setQ ?_) | refine WL.step rfl (StepTo.storeRow 10 rfl rfl rfl rfl rfl rfl rfl rfl (by omega) setQ ?_) | refine WL.step rfl (StepTo.store1 11 rfl rfl rfl rfl rfl rfl rfl overQ setQ ?_) | refine WL.step rfl (StepTo.storeA 11 rfl rfl rfl rfl rfl rfl rfl rfl overQ setQ ?_) | refine WL.step rfl (StepTo.storeRow 11 rfl rfl rfl rfl rfl rfl rfl rfl (by omega) setQ ?_))
    | with_reducible refine WC.block ?_
    | with_reducible refine WC.scope ?_
    | with_reducible refine WC.label ?_
    | with_reducible refine WQ.ngN ?_
    | with_reducible refine WQ.ngR ?_
    | with_reducible refine WQ.ngX ?_
    | with_reducible refine WC.skip ?_
    | with_reducible refine WC.ret ?_
    | with_reducible refine WC.exit ?_
    | with_reducible refine WQ.thenR ?_
    | with_reducible refine WQ.thenX ?_
    | with_reducible refine WQ.blkN ?_
    | with_reducible refine WQ.blkR ?_
    | ((with_reducible refine WQ.blkX ?_ ?_); focus rfl)
    | ((with_reducible refine WQ.blkY ?_ ?_); focus rfl)
    | refine WC.condT rfl ?_
    | refine WC.condF rfl ?_
    | refine WC.condTh rfl gdQ ?_
    | refine WC.condFh rfl gdQ ?_
    | (refine WC.cond rfl (fun hc => ?_) (fun hc => ?_) <;> (try first | (with_reducible replace hc := of_decide_eq_true hc) | (with_reducible replace hc := of_decide_eq_false hc) | (with_reducible replace hc := eqT hc) | (with_reducible replace hc := eqF hc) | (with_reducible replace hc := neT hc) | (with_reducible replace hc := neF hc) | (with_reducible replace hc := noT hc) | (with_reducible replace hc := noF hc)) <;> (try (exfalso; omega))))
  rintro v N ⟨A, c, L, cl, rfl, rfl⟩
  repeat' (first
    | with_reducible refine WL.nil ?_
    | with_reducible refine WQ.thenN ?_
    | with_reducible refine WQ.code ?_
    | with_reducible refine WC.seq ?_
    | with_reducible refine WC.region ?_
    | ((with_reducible refine WL.isN_move ?_); first | refine WL.yld rfl (Yld.pure rfl nrmQ) ?_)
    | ((with_reducible refine WL.isN_assign ?_); first | refine WL.yld rfl (Yld.pure rfl nrmQ) ?_)
    | ((with_reducible refine WL.isN_bin ?_); first | refine WL.yld rfl (Yld.pure rfl nrmQ) ?_ | refine WL.yld rfl (Yld.rem rfl rfl rfl rfl (by omega) (by omega)) ?_ | refine WL.yld rfl (Yld.quo rfl rfl rfl rfl (by omega) (by omega) nrmQ) ?_ | refine WL.yld rfl (Yld.eqlB rfl rfl rfl rfl) ?_ | refine WL.yld rfl (Yld.neqB rfl rfl rfl rfl) ?_ | refine WL.yld rfl (Yld.eqlA 4 rfl rfl rfl (by kernel_rfl) (by kernel_rfl) rfl rfl) ?_ | refine WL.yld rfl (Yld.neqA 4 rfl rfl rfl (by kernel_rfl) (by kernel_rfl) rfl rfl) ?_ | refine WL.yld rfl (Yld.quoT rfl rfl rfl rfl (by omega) nrmQ) ?_)
    | ((with_reducible refine WL.isN_extract ?_); first | refine WL.yld rfl (Yld.pure rfl nrmQ) ?_)
    | ((with_reducible refine WL.isN_load ?_); first | refine WL.yld rfl (Yld.load rfl rfl rfl rfl cellQ) ?_ | refine WL.yld rfl (Yld.loadAgg rfl rfl rfl rfl rfl aggQ) ?_)
    | ((with_reducible refine WL.isN_faddr ?_); first | refine WL.yld rfl (Yld.fieldAddr rfl rfl rfl rfl rfl rfl rfl) ?_)
    | ((with_reducible refine WL.isN_iaddr ?_); first | refine WL.yld rfl (Yld.indexS 0 rfl rfl rfl rfl rfl rfl (by omega)) ?_ | refine WL.yld rfl (Yld.indexS 1 rfl rfl rfl rfl rfl rfl (by omega)) ?_ | refine WL.yld rfl (Yld.indexS 2 rfl rfl rfl rfl rfl rfl (by omega)) ?_ | refine WL.yld rfl (Yld.indexS _ rfl rfl rfl rfl rfl rfl (by omega)) ?_ | refine WL.yld rfl (Yld.indexA 0 rfl rfl rfl rfl rfl rfl (by omega)) ?_ | refine WL.yld rfl (Yld.indexA 1 rfl rfl rfl rfl rfl rfl (by omega)) ?_ | refine WL.yld rfl (Yld.indexA _ rfl rfl rfl rfl rfl rfl (by omega)) ?_)
    | ((with_reducible refine WL.isN_conv ?_); first | refine WL.yld rfl (Yld.convInt rfl rfl rfl rfl nrmQ) ?_)
    | ((with_reducible refine WL.isN_build ?_); first | refine WL.yld rfl (Yld.build rfl rfl rfl) ?_)
    | ((with_reducible refine WL.isN_pick ?_); first | refine WL.yld rfl (Yld.pickT rfl rfl rfl) ?_ | refine WL.yld rfl (Yld.pickF rfl rfl rfl) ?_ | refine WL.yld rfl (Yld.pickTh rfl rfl gdQ rfl) ?_ | refine WL.yld rfl (Yld.pickFh rfl rfl gdQ rfl) ?_ | refine WL.yld rfl (Yld.pickB rfl rfl rfl rfl) ?_)
    | ((with_reducible refine WL.isN_func ?_); first | refine WL.yld rfl (Yld.func rfl rfl rfl) ?_)
    | ((with_reducible refine WL.isN_call ?_); first | refine WL.yld rfl (Yld.lenSlice rfl rfl rfl) ?_ | refine WL.yld rfl (Yld.lenStr rfl rfl rfl) ?_)
    | ((with_reducible refine WL.isT ?_); first | refine WL.skipT rfl rfl rfl rfl gdQ ?_ | refine WL.skipU rfl rfl rfl rfl ?_ | refine WL.runT rfl rfl rfl gdQ ?_ | (refine WL.cases rfl rfl rfl (fun hg => ?_) (fun hg => ?_) <;> (try first | (with_reducible replace hg := of_decide_eq_true hg) | (with_reducible replace hg := of_decide_eq_false hg) | (with_reducible replace hg := eqT hg) | (with_reducible replace hg := eqF hg) | (with_reducible replace hg := neT hg) | (with_reducible replace hg := neF hg) | (with_reducible replace hg := noT hg) | (with_reducible replace hg := noF hg)) <;> (try (exfalso; omega))))
    | ((with_reducible refine WL.isF ?_); first | refine WL.skipF rfl rfl rfl rfl gdQ ?_ | refine WL.skipU rfl rfl rfl rfl ?_ | refine WL.runF rfl rfl rfl gdQ ?_ | (refine WL.cases rfl rfl rfl (fun hg => ?_) (fun hg => ?_) <;> (try first | (with_reducible replace hg := of_decide_eq_true hg) | (with_reducible replace hg := of_decide_eq_false hg) | (with_reducible replace hg := eqT hg) | (with_reducible replace hg := eqF hg) | (with_reducible replace hg := neT hg) | (with_reducible replace hg := neF hg) | (with_reducible replace hg := noT hg) | (with_reducible replace hg := noF hg)) <;> (try (exfalso; omega))))
    | ((with_reducible refine WL.isN_box ?_); first | refine WL.step rfl (StepTo.boxA rfl rfl rfl rfl (fun _ => ?_)) | refine WL.step rfl (StepTo.box1 rfl rfl rfl rfl rfl (fun _ => ?_)))
    | ((with_reducible refine WL.isN_alloc ?_); first | refine WL.step rfl (StepTo.allocA rfl rfl rfl rfl (fun _ => ?_)) | refine WL.step rfl (StepTo.alloc1 rfl rfl rfl rfl rfl (fun _ => ?_)))
    | ((with_reducible refine WL.isN_store ?_); first | refine WL.step rfl (StepTo.store1 0 rfl rfl rfl rfl rfl rfl rfl overQ setQ ?_) | refine WL.step rfl (StepTo.storeA 0 rfl rfl rfl rfl rfl rfl rfl rfl overQ setQ ?_) | refine WL.step rfl (StepTo.storeRow 0 rfl rfl rfl rfl rfl rfl rfl rfl (by omega) setQ ?_) | refine WL.step rfl (StepTo.store1 1 rfl rfl rfl rfl rfl rfl rfl overQ setQ ?_) | refine WL.step rfl (StepTo.storeA 1 rfl rfl rfl rfl rfl rfl rfl rfl overQ setQ ?_) | refine WL.step rfl (StepTo.storeRow 1 rfl rfl rfl rfl rfl rfl rfl rfl (by omega) setQ ?_) | refine WL.step rfl (StepTo.store1 2 rfl rfl rfl rfl rfl rfl rfl overQ setQ ?_) | refine WL.step rfl (StepTo.storeA 2 rfl rfl rfl rfl rfl rfl rfl rfl overQ setQ ?_) | refine WL.step rfl (StepTo.storeRow 2 rfl rfl rfl rfl rfl rfl rfl rfl (by omega) setQ ?_) | refine WL.step rfl (StepTo.store1 3 rfl rfl rfl rfl rfl rfl rfl overQ setQ ?_) | refine WL.step rfl (StepTo.storeA 3 rfl rfl rfl rfl rfl rfl rfl rfl overQ setQ ?_) | refine WL.step rfl (StepTo.storeRow 3 rfl rfl rfl rfl rfl rfl rfl rfl (by omega) setQ ?_) | refine WL.step rfl (StepTo.store1 4 rfl rfl rfl rfl rfl rfl rfl overQ setQ ?_) | refine WL.step rfl (StepTo.storeA 4 rfl rfl rfl rfl rfl rfl rfl rfl overQ setQ ?_) | refine WL.step rfl (StepTo.storeRow 4 rfl rfl rfl rfl rfl rfl rfl rfl (by omega) setQ ?_) | refine WL.step rfl (StepTo.store1 5 rfl rfl rfl rfl rfl rfl rfl overQ setQ ?_) | refine WL.step rfl (StepTo.storeA 5 rfl rfl rfl rfl rfl rfl rfl rfl overQ setQ ?_) | refine WL.step rfl (StepTo.storeRow 5 rfl rfl rfl rfl rfl rfl rfl rfl (by omega) setQ ?_) | refine WL.step rfl (StepTo.store1 6 rfl rfl rfl rfl rfl rfl rfl overQ setQ ?_) | refine WL.step rfl (StepTo.storeA 6 rfl rfl rfl rfl rfl rfl rfl rfl overQ setQ ?_) | refine WL.step rfl (StepTo.storeRow 6 rfl rfl rfl rfl rfl rfl rfl rfl (by omega) setQ ?_) | refine WL.step rfl (StepTo.store1 7 rfl rfl rfl rfl rfl rfl rfl overQ setQ ?_) | refine WL.step rfl (StepTo.storeA 7 rfl rfl rfl rfl rfl rfl rfl rfl overQ setQ ?_) | refine WL.step rfl (StepTo.storeRow 7 rfl rfl rfl rfl rfl rfl rfl rfl (by omega) setQ ?_) | refine WL.step rfl (StepTo.store1 8 rfl rfl rfl rfl rfl rfl rfl overQ setQ ?_) | refine WL.step rfl (StepTo.storeA 8 rfl rfl rfl rfl rfl rfl rfl rfl overQ setQ ?_) | refine WL.step rfl (StepTo.storeRow 8 rfl rfl rfl rfl rfl rfl rfl rfl (by omega) setQ ?_) | refine WL.step rfl (StepTo.store1 9 rfl rfl rfl rfl rfl rfl rfl overQ setQ ?_) | refine WL.step rfl (StepTo.storeA 9 rfl rfl rfl rfl rfl rfl rfl rfl overQ setQ ?_) | refine WL.step rfl (StepTo.storeRow 9 rfl rfl rfl rfl rfl rfl rfl rfl (by omega) setQ ?_) | refine WL.step rfl (StepTo.store1 10 rfl rfl rfl rfl rfl rfl rfl overQ setQ ?_) | refine WL.step rfl (StepTo.storeA 10 rfl rfl rfl rfl rfl rfl rfl rfl overQ setQ ?_) | refine WL.step rfl (StepTo.storeRow 10 rfl rfl rfl rfl rfl rfl rfl rfl (by omega) setQ ?_) | refine WL.step rfl (StepTo.store1 11 rfl rfl rfl rfl rfl rfl rfl overQ setQ ?_) | refine WL.step rfl (StepTo.storeA 11 rfl rfl rfl rfl rfl rfl rfl rfl overQ setQ ?_) | refine WL.step rfl (StepTo.storeRow 11 rfl rfl rfl rfl rfl rfl rfl rfl (by omega) setQ ?_))
    | with_reducible refine WC.block ?_
    | with_reducible refine WC.scope ?_
    | with_reducible refine WC.label ?_
    | with_reducible refine WQ.ngN ?_
    | with_reducible refine WQ.ngR ?_
    | with_reducible refine WQ.ngX ?_
    | with_reducible refine WC.skip ?_
    | with_reducible refine WC.ret ?_
    | with_reducible refine WC.exit ?_
    | with_reducible refine WQ.thenR ?_
    | with_reducible refine WQ.thenX ?_
    | with_reducible refine WQ.blkN ?_
    | with_reducible refine WQ.blkR ?_
    | ((with_reducible refine WQ.blkX ?_ ?_); focus rfl)
    | ((with_reducible refine WQ.blkY ?_ ?_); focus rfl)
    | refine WC.condT rfl ?_
    | refine WC.condF rfl ?_
    | refine WC.condTh rfl gdQ ?_
    | refine WC.condFh rfl gdQ ?_
    | (refine WC.cond rfl (fun hc => ?_) (fun hc => ?_) <;> (try first | (with_reducible replace hc := of_decide_eq_true hc) | (with_reducible replace hc := of_decide_eq_false hc) | (with_reducible replace hc := eqT hc) | (with_reducible replace hc := eqF hc) | (with_reducible replace hc := neT hc) | (with_reducible replace hc := neF hc) | (with_reducible replace hc := noT hc) | (with_reducible replace hc := noF hc)) <;> (try (exfalso; omega))))
  have hTl := toldF_len s M.length to M
  refine WQ.body (Reads.three rfl (Res1.cellA rfl rfl rfl rfl (AggAt.box 7 rfl rfl)) (Res1.tmp rfl) (Res1.tmp rfl)) fun w' hw' => ?_
  have hw2 := hw'.pick (idx := [1, 2, 3]) (H' := [.row (some ⟨gN, 0, none⟩) kN c7 31 1 (flat u16c ((next.set s to).set s (toldF s M.length to M).1)), .row A (toldF s M.length to M).2.1.length c 38 6 (flat Msg.cs (toldF s M.length to M).2.1), .row L (toldF s M.length to M).2.2.length cl 38 6 (flat Msg.cs (toldF s M.length to M).2.2)]) ⟨by decide, rfl⟩
  rw [List.set_set] at hw2
  exact ⟨_, _, rfl, ⟨some ⟨gN, 0, none⟩, kN, c7, A, _, c, L, _, cl, rfl, rfl, own_okA (hw2.holds _ (List.mem_of_getElem? (i := 0) rfl)), own_okA (hw2.holds _ (List.mem_of_getElem? (i := 1) rfl)), by simp [lN], rfl, rfl⟩,
    hw2.toNewVw (by intro it hit; simp only [List.mem_cons, List.not_mem_nil, or_false] at hit; rcases hit with rfl | rfl | rfl <;> simp only [Item.short] <;> omega) (by intro it hit; simp only [List.mem_cons, List.not_mem_nil, or_false] at hit; rcases hit with rfl | rfl | rfl <;> simp [Item.mine]) rfl⟩
end Go.Proofs.Ytegefnidhdicdaa
