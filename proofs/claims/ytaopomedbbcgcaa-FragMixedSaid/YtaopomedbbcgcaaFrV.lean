/- Pieces: whether two may be of one message, the place of one, copies, and what is struck out. -/
import Derived.Test.YtaopomedbbcgcaaFrF
import Derived.Test.YtaopomedbbcgcaaMap
import Derived.Test.YtaopomedbbcgcaaBls
import Derived.Test.YtaopomedbbcgcaaOka
import Derived.Test.YtaopomedbbcgcaaDel
import Derived.Test.YtaopomedbbcgcaaMm
import Derived.Test.YtaopomedbbcgcaaRow
namespace Go.Proofs.Ytaopomedbbcgcaa
open Go.RowKit Go.IntWalk
set_option linter.unusedVariables false
set_option linter.unusedSectionVars false
set_option maxRecDepth 100000

namespace Fr
abbrev Fp.cs (p : Fp) : List Value := [.int .u32 p.tsn, .bool p.be, .bool p.en, .bool p.fr, .int .u16 p.st, .int .u16 p.sn, .int .u32 p.pp, .string (bs p.tx)]
abbrev Mg.cs (m : Mg) : List Value := [.int .u32 m.first, .bool m.fr, .int .u16 m.st, .int .u16 m.sn, .int .u32 m.pp, .string (bs m.tx)]
theorem Fp.cs_len (p : Fp) : p.cs.length = 8 := rfl
theorem Fp.cs_one (p : Fp) : ∀ u ∈ p.cs, u.oneCell' = true := by
  intro u hu
  simp only [Fp.cs, List.mem_cons, List.not_mem_nil, or_false] at hu
  rcases hu with rfl | rfl | rfl | rfl | rfl | rfl | rfl | rfl <;> rfl
/-- What is so of every piece. -/
def Fp.Ok (p : Fp) : Prop := 0 ≤ p.tsn ∧ p.tsn < 4294967296
end Fr
abbrev Ps (w : World) (B : Nat) (A : Option Addr) (n : Nat) (l : List Fr.Fp) : Prop := Lst Fr.Fp.cs 8 w B A n l
abbrev pcv (x : Fr.Fp) : Value := .agg x.cs.toArray
theorem kin_q (a b : Fr.Fp) (w : World) : Calls Try.prog 34 #[pcv a, pcv b] w fun e w' => e = .returned (.bool (Fr.kin a b)) ∧ Below w.heap.size w w' := by
  have hk : Fr.kin a b = ((a.fr == b.fr) && (a.st == b.st) && (if a.fr then true else a.sn == b.sn)) := by
    unfold Fr.kin
    cases a.fr <;> simp
  rw [hk]
  cases h1 : (a.fr == b.fr) with
  | false =>
    refine enterW (fun _ => False) _ Try.func34 rfl (by simp only [Try.ntmps34, List.length_cons, List.length_nil, Nat.reduceAdd, Nat.reduceSub]; rfl) ?_
    repeat' (first
    | refine goS ?_
    | ((with_reducible refine WL.isN_bin ?_); first | refine WL.yld rfl ((Yld.pure rfl rfl).as (congrArg Value.bool h1)) ?_ | refine WL.yld rfl binQ ?_)
    | ((with_reducible refine WL.isN_load ?_); first | refine WL.yld rfl loadQ ?_)
    | ((with_reducible refine WL.isN_box ?_); first | refine WL.step rfl (StepTo.boxA rfl rfl rfl rfl (fun _ => ?_)) | refine WL.step rfl (StepTo.box1 rfl rfl rfl rfl rfl (fun _ => ?_)))
    | with_reducible refine WC.block ?_
    | (refine WC.cond rfl (fun hc => ?_) (fun hc => ?_) <;> (try first | (with_reducible replace hc := of_decide_eq_true hc) | (with_reducible replace hc := of_decide_eq_false hc) | (with_reducible replace hc := eqT hc) | (with_reducible replace hc := eqF hc) | (with_reducible replace hc := neT hc) | (with_reducible replace hc := neF hc) | (with_reducible replace hc := noT hc) | (with_reducible replace hc := noF hc)) <;> (try (exfalso; omega))))
    exact WQ.body (Reads.tmp rfl rfl) fun w' hw' => ⟨rfl, hw'.ext.below⟩
  | true =>
  cases h2 : (a.st == b.st) with
  | false =>
    refine enterW (fun _ => False) _ Try.func34 rfl (by simp only [Try.ntmps34, List.length_cons, List.length_nil, Nat.reduceAdd, Nat.reduceSub]; rfl) ?_
    repeat' (first
    | refine goS ?_
    | ((with_reducible refine WL.isN_bin ?_); first | refine WL.yld rfl ((Yld.pure rfl rfl).as (congrArg Value.bool h1)) ?_ | refine WL.yld rfl ((Yld.pure rfl rfl).as (congrArg Value.bool h2)) ?_ | refine WL.yld rfl binQ ?_)
    | ((with_reducible refine WL.isN_load ?_); first | refine WL.yld rfl loadQ ?_)
    | ((with_reducible refine WL.isN_box ?_); first | refine WL.step rfl (StepTo.boxA rfl rfl rfl rfl (fun _ => ?_)) | refine WL.step rfl (StepTo.box1 rfl rfl rfl rfl rfl (fun _ => ?_)))
    | with_reducible refine WC.block ?_
    | (refine WC.cond rfl (fun hc => ?_) (fun hc => ?_) <;> (try first | (with_reducible replace hc := of_decide_eq_true hc) | (with_reducible replace hc := of_decide_eq_false hc) | (with_reducible replace hc := eqT hc) | (with_reducible replace hc := eqF hc) | (with_reducible replace hc := neT hc) | (with_reducible replace hc := neF hc) | (with_reducible replace hc := noT hc) | (with_reducible replace hc := noF hc)) <;> (try (exfalso; omega))))
    exact WQ.body (Reads.tmp rfl rfl) fun w' hw' => ⟨rfl, hw'.ext.below⟩
  | true =>
  cases h3 : a.fr with
  | true =>
    refine enterW (fun _ => False) _ Try.func34 rfl (by simp only [Try.ntmps34, List.length_cons, List.length_nil, Nat.reduceAdd, Nat.reduceSub]; rfl) ?_
    repeat' (first
    | refine goS ?_
    | ((with_reducible refine WL.isN_bin ?_); first | refine WL.yld rfl ((Yld.pure rfl rfl).as (congrArg Value.bool h1)) ?_ | refine WL.yld rfl ((Yld.pure rfl rfl).as (congrArg Value.bool h2)) ?_ | refine WL.yld rfl binQ ?_)
    | ((with_reducible refine WL.isN_load ?_); first | refine WL.yld rfl loadQ ?_)
    | ((with_reducible refine WL.isN_box ?_); first | refine WL.step rfl (StepTo.boxA rfl rfl rfl rfl (fun _ => ?_)) | refine WL.step rfl (StepTo.box1 rfl rfl rfl rfl rfl (fun _ => ?_)))
    | with_reducible refine WC.block ?_
    | (refine WC.cond rfl (fun hc => ?_) (fun hc => ?_) <;> (try first | (with_reducible replace hc := of_decide_eq_true hc) | (with_reducible replace hc := of_decide_eq_false hc) | (with_reducible replace hc := eqT hc) | (with_reducible replace hc := eqF hc) | (with_reducible replace hc := neT hc) | (with_reducible replace hc := neF hc) | (with_reducible replace hc := noT hc) | (with_reducible replace hc := noF hc)) <;> (try (exfalso; omega))))
    exact WQ.body (Reads.tmp rfl rfl) fun w' hw' => ⟨by simp [h3], hw'.ext.below⟩
  | false =>
    refine enterW (fun _ => False) _ Try.func34 rfl (by simp only [Try.ntmps34, List.length_cons, List.length_nil, Nat.reduceAdd, Nat.reduceSub]; rfl) ?_
    repeat' (first
    | refine goS ?_
    | ((with_reducible refine WL.isN_bin ?_); first | refine WL.yld rfl ((Yld.pure rfl rfl).as (congrArg Value.bool h1)) ?_ | refine WL.yld rfl ((Yld.pure rfl rfl).as (congrArg Value.bool h2)) ?_ | refine WL.yld rfl binQ ?_)
    | ((with_reducible refine WL.isN_load ?_); first | refine WL.yld rfl loadQ ?_)
    | ((with_reducible refine WL.isN_box ?_); first | refine WL.step rfl (StepTo.boxA rfl rfl rfl rfl (fun _ => ?_)) | refine WL.step rfl (StepTo.box1 rfl rfl rfl rfl rfl (fun _ => ?_)))
    | with_reducible refine WC.block ?_
    | (refine WC.cond rfl (fun hc => ?_) (fun hc => ?_) <;> (try first | (with_reducible replace hc := of_decide_eq_true hc) | (with_reducible replace hc := of_decide_eq_false hc) | (with_reducible replace hc := eqT hc) | (with_reducible replace hc := eqF hc) | (with_reducible replace hc := neT hc) | (with_reducible replace hc := neF hc) | (with_reducible replace hc := noT hc) | (with_reducible replace hc := noF hc)) <;> (try (exfalso; omega))))
    exact WQ.body (Reads.tmp rfl rfl) fun w' hw' => ⟨by simp, hw'.ext.below⟩
theorem rkin_q (a b : Fr.Fp) (w : World) : Calls Try.prog 36 #[pcv a, pcv b] w fun e w' => e = .returned (.bool (Fr.kin a b)) ∧ Below w.heap.size w w' := by
  have hk : Fr.kin a b = ((a.fr == b.fr) && (a.st == b.st) && (if a.fr then true else a.sn == b.sn)) := by
    unfold Fr.kin
    cases a.fr <;> simp
  rw [hk]
  cases h1 : (a.fr == b.fr) with
  | false =>
    refine enterW (fun _ => False) _ Try.func36 rfl (by simp only [Try.ntmps36, List.length_cons, List.length_nil, Nat.reduceAdd, Nat.reduceSub]; rfl) ?_
    repeat' (first
    | refine goS ?_
    | ((with_reducible refine WL.isN_bin ?_); first | refine WL.yld rfl ((Yld.pure rfl rfl).as (congrArg Value.bool h1)) ?_ | refine WL.yld rfl binQ ?_)
    | ((with_reducible refine WL.isN_load ?_); first | refine WL.yld rfl loadQ ?_)
    | ((with_reducible refine WL.isN_box ?_); first | refine WL.step rfl (StepTo.boxA rfl rfl rfl rfl (fun _ => ?_)) | refine WL.step rfl (StepTo.box1 rfl rfl rfl rfl rfl (fun _ => ?_)))
    | with_reducible refine WC.block ?_
    | (refine WC.cond rfl (fun hc => ?_) (fun hc => ?_) <;> (try first | (with_reducible replace hc := of_decide_eq_true hc) | (with_reducible replace hc := of_decide_eq_false hc) | (with_reducible replace hc := eqT hc) | (with_reducible replace hc := eqF hc) | (with_reducible replace hc := neT hc) | (with_reducible replace hc := neF hc) | (with_reducible replace hc := noT hc) | (with_reducible replace hc := noF hc)) <;> (try (exfalso; omega))))
    exact WQ.body (Reads.tmp rfl rfl) fun w' hw' => ⟨rfl, hw'.ext.below⟩
  | true =>
  cases h2 : (a.st == b.st) with
  | false =>
    refine enterW (fun _ => False) _ Try.func36 rfl (by simp only [Try.ntmps36, List.length_cons, List.length_nil, Nat.reduceAdd, Nat.reduceSub]; rfl) ?_
    repeat' (first
    | refine goS ?_
    | ((with_reducible refine WL.isN_bin ?_); first | refine WL.yld rfl ((Yld.pure rfl rfl).as (congrArg Value.bool h1)) ?_ | refine WL.yld rfl ((Yld.pure rfl rfl).as (congrArg Value.bool h2)) ?_ | refine WL.yld rfl binQ ?_)
    | ((with_reducible refine WL.isN_load ?_); first | refine WL.yld rfl loadQ ?_)
    | ((with_reducible refine WL.isN_box ?_); first | refine WL.step rfl (StepTo.boxA rfl rfl rfl rfl (fun _ => ?_)) | refine WL.step rfl (StepTo.box1 rfl rfl rfl rfl rfl (fun _ => ?_)))
    | with_reducible refine WC.block ?_
    | (refine WC.cond rfl (fun hc => ?_) (fun hc => ?_) <;> (try first | (with_reducible replace hc := of_decide_eq_true hc) | (with_reducible replace hc := of_decide_eq_false hc) | (with_reducible replace hc := eqT hc) | (with_reducible replace hc := eqF hc) | (with_reducible replace hc := neT hc) | (with_reducible replace hc := neF hc) | (with_reducible replace hc := noT hc) | (with_reducible replace hc := noF hc)) <;> (try (exfalso; omega))))
    exact WQ.body (Reads.tmp rfl rfl) fun w' hw' => ⟨rfl, hw'.ext.below⟩
  | true =>
  cases h3 : a.fr with
  | true =>
    refine enterW (fun _ => False) _ Try.func36 rfl (by simp only [Try.ntmps36, List.length_cons, List.length_nil, Nat.reduceAdd, Nat.reduceSub]; rfl) ?_
    repeat' (first
    | refine goS ?_
    | ((with_reducible refine WL.isN_bin ?_); first | refine WL.yld rfl ((Yld.pure rfl rfl).as (congrArg Value.bool h1)) ?_ | refine WL.yld rfl ((Yld.pure rfl rfl).as (congrArg Value.bool h2)) ?_ | refine WL.yld rfl binQ ?_)
    | ((with_reducible refine WL.isN_load ?_); first | refine WL.yld rfl loadQ ?_)
    | ((with_reducible refine WL.isN_box ?_); first | refine WL.step rfl (StepTo.boxA rfl rfl rfl rfl (fun _ => ?_)) | refine WL.step rfl (StepTo.box1 rfl rfl rfl rfl rfl (fun _ => ?_)))
    | with_reducible refine WC.block ?_
    | (refine WC.cond rfl (fun hc => ?_) (fun hc => ?_) <;> (try first | (with_reducible replace hc := of_decide_eq_true hc) | (with_reducible replace hc := of_decide_eq_false hc) | (with_reducible replace hc := eqT hc) | (with_reducible replace hc := eqF hc) | (with_reducible replace hc := neT hc) | (with_reducible replace hc := neF hc) | (with_reducible replace hc := noT hc) | (with_reducible replace hc := noF hc)) <;> (try (exfalso; omega))))
    exact WQ.body (Reads.tmp rfl rfl) fun w' hw' => ⟨by simp [h3], hw'.ext.below⟩
  | false =>
    refine enterW (fun _ => False) _ Try.func36 rfl (by simp only [Try.ntmps36, List.length_cons, List.length_nil, Nat.reduceAdd, Nat.reduceSub]; rfl) ?_
    repeat' (first
    | refine goS ?_
    | ((with_reducible refine WL.isN_bin ?_); first | refine WL.yld rfl ((Yld.pure rfl rfl).as (congrArg Value.bool h1)) ?_ | refine WL.yld rfl ((Yld.pure rfl rfl).as (congrArg Value.bool h2)) ?_ | refine WL.yld rfl binQ ?_)
    | ((with_reducible refine WL.isN_load ?_); first | refine WL.yld rfl loadQ ?_)
    | ((with_reducible refine WL.isN_box ?_); first | refine WL.step rfl (StepTo.boxA rfl rfl rfl rfl (fun _ => ?_)) | refine WL.step rfl (StepTo.box1 rfl rfl rfl rfl rfl (fun _ => ?_)))
    | with_reducible refine WC.block ?_
    | (refine WC.cond rfl (fun hc => ?_) (fun hc => ?_) <;> (try first | (with_reducible replace hc := of_decide_eq_true hc) | (with_reducible replace hc := of_decide_eq_false hc) | (with_reducible replace hc := eqT hc) | (with_reducible replace hc := eqF hc) | (with_reducible replace hc := neT hc) | (with_reducible replace hc := neF hc) | (with_reducible replace hc := noT hc) | (with_reducible replace hc := noF hc)) <;> (try (exfalso; omega))))
    exact WQ.body (Reads.tmp rfl rfl) fun w' hw' => ⟨by simp, hw'.ext.below⟩
/-- A function value that tells of each message whether it is struck out, whatever was written into the blocks D. -/
def PredC (P : Program) (f : FuncId) (caps : List Value) (p : Fr.Fp → Bool) (D : Nat → Prop) (w : World) : Prop :=
  ∀ w', Ext D w w' → ∀ x : Fr.Fp, Fr.Fp.Ok x → Calls P f (pcv x :: caps).toArray w' fun e w'' => e = .returned (.bool (p x)) ∧ Below w'.heap.size w' w''
theorem findP_take {p : Fr.Fp → Bool} {xs : List Fr.Fp} {i : Nat} {m : Fr.Fp} (hm : xs[i]? = some m) (hall : ∀ (j : Nat) x, j < i → xs[j]? = some x → p x = false) (hp : p m = true) : xs.findIdx p = i := by
  obtain ⟨hi, rfl⟩ := List.getElem?_eq_some_iff.1 hm
  exact (List.findIdx_eq hi).2 ⟨hp, fun j hj => by
    have := hall j _ hj (List.getElem?_eq_getElem (by omega))
    simp [this]⟩
/-- 'IndexFunc': the first message that is struck out, or -1. -/
theorem index_q (A : Option Addr) (n c : Nat) (xs : List Fr.Fp) (f : FuncId) (caps : List Value) (p : Fr.Fp → Bool) (w : World) (hL : Ps w w.heap.size A n xs) (hx : ∀ x ∈ xs, Fr.Fp.Ok x) (hn : n ≤ 1000000) (hp : PredC Try.prog f caps p (fun _ => False) w) (hB : callsB Try.prog f = true) :
    Calls Try.prog 33 #[.slice A n c, .func (.func f) #[] caps.toArray] w
      fun e w' => e = .returned (.int .i64 (if xs.findIdx p < n then ((xs.findIdx p : Nat) : Int) else -1)) ∧ Below w.heap.size w w' := by
  have hl := hL.len
  refine enterW (fun _ => False) _ Try.func33 rfl (by simp only [Try.ntmps33, List.length_cons, List.length_nil, Nat.reduceAdd, Nat.reduceSub]; rfl) ?_
  refine WC.addVw Fr.Fp.cs_len hL ?_
  repeat' (first
    | refine goS ?_
    | ((with_reducible refine WL.isN_bin ?_); first | refine WL.yld rfl binQ ?_)
    | ((with_reducible refine WL.isN_load ?_); first | refine WL.yld rfl loadQ ?_)
    | ((with_reducible refine WL.isN_iaddr ?_); first | refine WL.yld rfl iaddrQ ?_)
    | ((with_reducible refine WL.isN_call ?_); first | refine WL.yld rfl lenQ ?_)
    | with_reducible refine WC.block ?_
    | (refine WC.cond rfl (fun hc => ?_) (fun hc => ?_) <;> (try first | (with_reducible replace hc := of_decide_eq_true hc) | (with_reducible replace hc := of_decide_eq_false hc) | (with_reducible replace hc := eqT hc) | (with_reducible replace hc := eqF hc) | (with_reducible replace hc := neT hc) | (with_reducible replace hc := neF hc) | (with_reducible replace hc := noT hc) | (with_reducible replace hc := noF hc)) <;> (try (exfalso; omega))))
  refine WC.loop (fun mm τ H => ∃ i : Nat, i ≤ n ∧ mm = n - i ∧ (∀ (j : Nat) x, j < i → xs[j]? = some x → p x = false) ∧
      τ = [(0, .slice A n c), (1, .func (.func f) #[] caps.toArray), (7, .int .i64 n), (8, .int .i64 i)] ∧ H = [.vw A n 8 (flat Fr.Fp.cs xs)])
    n _ _ [0] ?_ ?_ ⟨0, by omega, rfl, fun j x hj => absurd hj (by omega), rfl, rfl⟩ ?_
  · exact (by repeat (first | exact Sub.nil | refine Sub.cons rfl ?_ | refine Sub.consE rfl (int_eq (by omega)) ?_))
  · exact ⟨by decide, rfl⟩
  rintro mm τ H ⟨i, hi, rfl, hall, rfl, rfl⟩
  by_cases hlt : i < n
  · obtain ⟨m, hm⟩ : ∃ m, xs[i]? = some m := ⟨_, List.getElem?_eq_getElem (by omega)⟩
    have hpm : PartAt (flat Fr.Fp.cs xs) (i * 8) m.cs := PartAt.flat Fr.Fp.cs_len hm
    have hum := hx m (List.mem_of_getElem? hm)
    refine WC.vwAt 0 rfl (by omega) fun b off hA => ?_
    subst hA
    cases hpx : p m with
    | true =>
      have he := findP_take hm hall hpx
      repeat' (first
    | refine goS ?_
    | ((with_reducible refine WL.isN_bin ?_); first | refine WL.yld rfl binQ ?_)
    | ((with_reducible refine WL.isN_load ?_); first | refine WL.yld rfl loadQ ?_)
    | ((with_reducible refine WL.isN_iaddr ?_); first | refine WL.yld rfl iaddrQ ?_)
    | ((with_reducible refine WL.isN_call ?_); first | refine WL.step rfl (StepTo.callV (v := .bool true) (us := pcv m :: caps) rfl rfl rfl rfl rfl hB (fun w' hw' => hpx ▸ hp w' hw'.ext m hum) ?_) | refine WL.yld rfl lenQ ?_)
    | with_reducible refine WC.block ?_
    | (refine WC.cond rfl (fun hc => ?_) (fun hc => ?_) <;> (try first | (with_reducible replace hc := of_decide_eq_true hc) | (with_reducible replace hc := of_decide_eq_false hc) | (with_reducible replace hc := eqT hc) | (with_reducible replace hc := eqF hc) | (with_reducible replace hc := neT hc) | (with_reducible replace hc := neF hc) | (with_reducible replace hc := noT hc) | (with_reducible replace hc := noF hc)) <;> (try (exfalso; omega))))
      exact WQ.body (Reads.tmp rfl rfl) fun w' hw' => ⟨by rw [he, if_pos hlt], hw'.ext.below⟩
    | false =>
      repeat' (first
    | refine goS ?_
    | ((with_reducible refine WL.isN_bin ?_); first | refine WL.yld rfl binQ ?_)
    | ((with_reducible refine WL.isN_load ?_); first | refine WL.yld rfl loadQ ?_)
    | ((with_reducible refine WL.isN_iaddr ?_); first | refine WL.yld rfl iaddrQ ?_)
    | ((with_reducible refine WL.isN_call ?_); first | refine WL.step rfl (StepTo.callV (v := .bool false) (us := pcv m :: caps) rfl rfl rfl rfl rfl hB (fun w' hw' => hpx ▸ hp w' hw'.ext m hum) ?_) | refine WL.yld rfl lenQ ?_)
    | with_reducible refine WC.block ?_
    | (refine WC.cond rfl (fun hc => ?_) (fun hc => ?_) <;> (try first | (with_reducible replace hc := of_decide_eq_true hc) | (with_reducible replace hc := of_decide_eq_false hc) | (with_reducible replace hc := eqT hc) | (with_reducible replace hc := eqF hc) | (with_reducible replace hc := neT hc) | (with_reducible replace hc := neF hc) | (with_reducible replace hc := noT hc) | (with_reducible replace hc := noF hc)) <;> (try (exfalso; omega))))
      exact WQ.rnd (n - (i + 1)) _ _ [0] (by repeat (first | exact Sub.nil | refine Sub.cons rfl ?_ | refine Sub.consE rfl (int_eq (by omega)) ?_)) ⟨by decide, rfl⟩ (by omega) ⟨i + 1, by omega, rfl, fun j x hj hx' => by
        by_cases e : j = i
        · subst e
          rw [hm] at hx'
          injection hx' with hx'
          subst hx'
          exact hpx
        · exact hall j x (by omega) hx', rfl, rfl⟩
  · have he : xs.findIdx p = xs.length := List.findIdx_eq_length.2 fun x hx' => by
      obtain ⟨j, hj, rfl⟩ := List.getElem_of_mem hx'
      exact hall j _ (by omega) (List.getElem?_eq_getElem hj)
    repeat' (first
    | refine goS ?_
    | ((with_reducible refine WL.isN_bin ?_); first | refine WL.yld rfl binQ ?_)
    | ((with_reducible refine WL.isN_load ?_); first | refine WL.yld rfl loadQ ?_)
    | ((with_reducible refine WL.isN_iaddr ?_); first | refine WL.yld rfl iaddrQ ?_)
    | ((with_reducible refine WL.isN_call ?_); first | refine WL.yld rfl lenQ ?_)
    | with_reducible refine WC.block ?_
    | (refine WC.cond rfl (fun hc => ?_) (fun hc => ?_) <;> (try first | (with_reducible replace hc := of_decide_eq_true hc) | (with_reducible replace hc := of_decide_eq_false hc) | (with_reducible replace hc := eqT hc) | (with_reducible replace hc := eqF hc) | (with_reducible replace hc := neT hc) | (with_reducible replace hc := neF hc) | (with_reducible replace hc := noT hc) | (with_reducible replace hc := noF hc)) <;> (try (exfalso; omega))))
    exact WQ.body (Reads.tmp rfl rfl) fun w' hw' => ⟨by rw [he, if_neg (by omega)], hw'.ext.below⟩

theorem Ext.then0 {D : Nat → Prop} {w w' w'' : World} (h : Ext D w w') (h' : Ext (fun _ => False) w' w'') : Ext D w w'' :=
  ⟨h'.os.trans h.os, h'.tape.trans h.tape, h'.output.trans h.output, Nat.le_trans h.size h'.size, fun k hk hd => (h'.block k (Nat.lt_of_lt_of_le hk h.size) id).trans (h.block k hk hd)⟩
theorem PredC.at {P : Program} {f : FuncId} {caps : List Value} {p : Fr.Fp → Bool} {D : Nat → Prop} {w w' : World} (h : PredC P f caps p D w) (hw : Ext D w w') : PredC P f caps p (fun _ => False) w' :=
  fun w'' h' x hx => h w'' (hw.then0 h') x hx
theorem PredC.mono {P : Program} {f : FuncId} {caps : List Value} {p : Fr.Fp → Bool} {D D' : Nat → Prop} {w : World} (h : PredC P f caps p D' w) (hd : ∀ b, D b → D' b) : PredC P f caps p D w :=
  fun w' h' x hx => h w' ⟨h'.os, h'.tape, h'.output, h'.size, fun k hk hn => h'.block k hk fun hb => hn (hd k hb)⟩ x hx
theorem filter_take {p : Fr.Fp → Bool} {xs : List Fr.Fp} {j : Nat} {m : Fr.Fp} (hm : xs[j]? = some m) : (xs.take (j + 1)).filter (fun x => !p x) = (xs.take j).filter (fun x => !p x) ++ (if p m then [] else [m]) := by
  rw [List.take_add_one, hm, List.filter_append]
  congr 1
  cases h : p m <;> simp [h]
set_option maxHeartbeats 4000000 in
/-- 'DeleteFunc': what is left, in the same row. -/
theorem delete_w (A : Option Addr) (n c : Nat) (xs : List Fr.Fp) (f : FuncId) (caps : List Value) (p : Fr.Fp → Bool) (w : World) (hS : Sat w (Bs [.row A n c 34 8 (flat Fr.Fp.cs xs)]) [.row A n c 34 8 (flat Fr.Fp.cs xs)] w) (hl : xs.length = n) (hx : ∀ x ∈ xs, Fr.Fp.Ok x) (hn : n ≤ 1000000)
    (hp : PredC Try.prog f caps p (Bs [.row A n c 34 8 (flat Fr.Fp.cs xs)]) w) (hB : callsB Try.prog f = true) :
    Calls Try.prog 29 #[.slice A n c, .func (.func f) #[] caps.toArray] w
      fun e w' => ∃ v N, e = .returned v ∧ (∃ k, k = (xs.filter fun x => !p x).length ∧ v = .slice A k c ∧ N = [.row A k c 34 8 (flat Fr.Fp.cs (xs.filter fun x => !p x))]) ∧ Mod (Bs [.row A n c 34 8 (flat Fr.Fp.cs xs)]) N w w' := by
  refine enterM _ _ hS Try.func29 rfl (by simp only [Try.ntmps29, List.length_cons, List.length_nil, Nat.reduceAdd, Nat.reduceSub]; rfl) ?_
  by_cases hi0 : xs.findIdx p < n
  case neg =>
    have hnone : ∀ x ∈ xs, p x = false := List.findIdx_eq_length.1 (by have := List.findIdx_le_length (p := p) (xs := xs); omega)
    have hfil : xs.filter (fun x => !p x) = xs := List.filter_eq_self.2 fun x hx' => by simp [hnone x hx']
    rw [hfil]
    repeat' (first
    | refine goS ?_
    | ((with_reducible refine WL.isN_bin ?_); first | refine WL.yld rfl binQ ?_)
    | ((with_reducible refine WL.isN_load ?_); first | refine WL.yld rfl loadQ ?_)
    | ((with_reducible refine WL.isN_iaddr ?_); first | refine WL.yld rfl iaddrQ ?_)
    | ((with_reducible refine WL.isN_call ?_); first | refine WL.step rfl (StepTo.callV (v := .int .i64 (-1)) (us := [.slice A n c, .func (.func f) #[] caps.toArray]) rfl rfl rfl rfl rfl (by kernel_rfl) (fun w' hw' => (index_q A n c xs f caps p w' (hw'.lstRow 0 Fr.Fp.cs_len (by omega) rfl (by simp only [maxLen]; omega)) hx hn (hp.at hw'.ext) hB).mono fun e w2 ⟨h1, h2⟩ => ⟨by rw [h1, if_neg hi0], h2⟩) ?_) | refine WL.yld rfl lenQ ?_)
    | ((with_reducible refine WL.isN_alloc ?_); first | refine WL.step rfl (StepTo.allocA rfl rfl rfl rfl (fun _ => ?_)) | refine WL.step rfl (StepTo.alloc1 rfl rfl rfl rfl rfl (fun _ => ?_)))
    | ((with_reducible refine WL.isN_store ?_); first | refine WL.step rfl (StepTo.st1 rfl rfl rfl rfl rfl rfl ?_) | refine WL.step rfl (StepTo.stA rfl rfl rfl rfl rfl rfl rfl ?_) | refine WL.step rfl (StepTo.stR rfl rfl rfl rfl rfl rfl rfl ?_))
    | with_reducible refine WC.block ?_
    | (refine WC.cond rfl (fun hc => ?_) (fun hc => ?_) <;> (try first | (with_reducible replace hc := of_decide_eq_true hc) | (with_reducible replace hc := of_decide_eq_false hc) | (with_reducible replace hc := eqT hc) | (with_reducible replace hc := eqF hc) | (with_reducible replace hc := neT hc) | (with_reducible replace hc := neF hc) | (with_reducible replace hc := noT hc) | (with_reducible replace hc := noF hc)) <;> (try (exfalso; omega))))
    exact WQ.body (Reads.tmp rfl rfl) fun w' hw' => ⟨_, _, rfl, ⟨n, hl.symm, rfl, rfl⟩, hw'.toMod (by simp [Item.mine])⟩
  refine WC.rowAt 0 rfl (by omega) fun g hA => ?_
  subst hA
  repeat' (first
    | refine goS ?_
    | ((with_reducible refine WL.isN_bin ?_); first | refine WL.yld rfl binQ ?_)
    | ((with_reducible refine WL.isN_load ?_); first | refine WL.yld rfl loadQ ?_)
    | ((with_reducible refine WL.isN_iaddr ?_); first | refine WL.yld rfl iaddrQ ?_)
    | ((with_reducible refine WL.isN_call ?_); first | refine WL.step rfl (StepTo.callV (v := .int .i64 (xs.findIdx p : Nat)) (us := [.slice (some ⟨g, 0, none⟩) n c, .func (.func f) #[] caps.toArray]) rfl rfl rfl rfl rfl (by kernel_rfl) (fun w' hw' => (index_q _ n c xs f caps p w' (hw'.lstRow 0 Fr.Fp.cs_len (by omega) rfl (by simp only [maxLen]; omega)) hx hn (hp.at hw'.ext) hB).mono fun e w2 ⟨h1, h2⟩ => ⟨by rw [h1, if_pos hi0], h2⟩) ?_) | refine WL.yld rfl lenQ ?_)
    | ((with_reducible refine WL.isN_alloc ?_); first | refine WL.step rfl (StepTo.allocA rfl rfl rfl rfl (fun _ => ?_)) | refine WL.step rfl (StepTo.alloc1 rfl rfl rfl rfl rfl (fun _ => ?_)))
    | ((with_reducible refine WL.isN_store ?_); first | refine WL.step rfl (StepTo.st1 rfl rfl rfl rfl rfl rfl ?_) | refine WL.step rfl (StepTo.stA rfl rfl rfl rfl rfl rfl rfl ?_) | refine WL.step rfl (StepTo.stR rfl rfl rfl rfl rfl rfl rfl ?_))
    | with_reducible refine WC.block ?_
    | (refine WC.cond rfl (fun hc => ?_) (fun hc => ?_) <;> (try first | (with_reducible replace hc := of_decide_eq_true hc) | (with_reducible replace hc := of_decide_eq_false hc) | (with_reducible replace hc := eqT hc) | (with_reducible replace hc := eqF hc) | (with_reducible replace hc := neT hc) | (with_reducible replace hc := neF hc) | (with_reducible replace hc := noT hc) | (with_reducible replace hc := noF hc)) <;> (try (exfalso; omega))))
  generalize hi0e : xs.findIdx p = i0 at hi0
  have hbefore : ∀ x ∈ xs.take i0, p x = false := fun x hx' => by
    obtain ⟨j, hj, rfl⟩ := List.getElem_of_mem hx'
    rw [List.length_take] at hj
    rw [List.getElem_take]
    have := List.not_of_lt_findIdx (p := p) (xs := xs) (i := j) (by omega)
    simpa using this
  have hat : p (xs[i0]'(by omega)) = true := by
    have := List.findIdx_getElem (p := p) (xs := xs) (w := by omega)
    simpa [hi0e] using this
  have hf0 : (xs.take (i0 + 1)).filter (fun x => !p x) = xs.take i0 := by
    rw [filter_take (List.getElem?_eq_getElem (by omega : i0 < xs.length)), hat, if_pos rfl, List.append_nil]
    exact List.filter_eq_self.2 fun x hx' => by simp [hbefore x hx']
  refine WC.loop (fun mm τ H => ∃ (j k : Nat) (ys : List Fr.Fp), j ≤ n ∧ mm = n - j ∧ k < j ∧ ys.length = n ∧ ys.take k = (xs.take j).filter (fun x => !p x) ∧ ys.drop j = xs.drop j ∧ ((xs.take j).filter fun x => !p x).length = k ∧
      τ = [(0, .slice (some ⟨g, 0, none⟩) n c), (1, .func (.func f) #[] caps.toArray), (5, .int .i64 k), (6, .int .i64 j)] ∧ H = [.row (some ⟨g, 0, none⟩) n c 34 8 (flat Fr.Fp.cs ys)])
    (n - (i0 + 1)) _ _ [0] ?_ ?_ ⟨i0 + 1, i0, xs, by omega, rfl, by omega, hl, hf0.symm, rfl, by rw [hf0, List.length_take]; omega, rfl, rfl⟩ ?_
  · exact (by repeat (first | exact Sub.nil | refine Sub.cons rfl ?_ | refine Sub.consE rfl (int_eq (by omega)) ?_))
  · exact ⟨by decide, rfl⟩
  rintro mm τ H ⟨j, k, ys, hj, rfl, hkj, hyl, hyk, hyd, hkl, rfl, rfl⟩
  have hfl : (flat Fr.Fp.cs ys).length = n * 8 := by rw [flat_len Fr.Fp.cs_len, hyl]
  by_cases hlt : j < n
  · obtain ⟨m, hm⟩ : ∃ m, xs[j]? = some m := ⟨_, List.getElem?_eq_getElem (by omega)⟩
    have hym : ys[j]? = some m := by
      have : (ys.drop j)[0]? = (xs.drop j)[0]? := by rw [hyd]
      rw [List.getElem?_drop, List.getElem?_drop, Nat.add_zero] at this
      rw [this, hm]
    have hpm : PartAt (flat Fr.Fp.cs ys) (j * 8) m.cs := PartAt.flat Fr.Fp.cs_len hym
    have hum := hx m (List.mem_of_getElem? hm)
    have hft := filter_take (p := p) hm
    cases hpx : p m with
    | true =>
      rw [hpx, if_pos rfl, List.append_nil] at hft
      repeat' (first
    | refine goS ?_
    | ((with_reducible refine WL.isN_bin ?_); first | refine WL.yld rfl binQ ?_)
    | ((with_reducible refine WL.isN_load ?_); first | refine WL.yld rfl loadQ ?_)
    | ((with_reducible refine WL.isN_iaddr ?_); first | refine WL.yld rfl iaddrQ ?_)
    | ((with_reducible refine WL.isN_call ?_); first | refine WL.step rfl (StepTo.callV (v := .bool true) (us := pcv m :: caps) rfl rfl rfl rfl rfl hB (fun w' hw' => hpx ▸ hp w' hw'.ext m hum) ?_) | refine WL.yld rfl lenQ ?_)
    | ((with_reducible refine WL.isN_alloc ?_); first | refine WL.step rfl (StepTo.allocA rfl rfl rfl rfl (fun _ => ?_)) | refine WL.step rfl (StepTo.alloc1 rfl rfl rfl rfl rfl (fun _ => ?_)))
    | ((with_reducible refine WL.isN_store ?_); first | refine WL.step rfl (StepTo.st1 rfl rfl rfl rfl rfl rfl ?_) | refine WL.step rfl (StepTo.stA rfl rfl rfl rfl rfl rfl rfl ?_) | refine WL.step rfl (StepTo.stR rfl rfl rfl rfl rfl rfl rfl ?_))
    | with_reducible refine WC.block ?_
    | (refine WC.cond rfl (fun hc => ?_) (fun hc => ?_) <;> (try first | (with_reducible replace hc := of_decide_eq_true hc) | (with_reducible replace hc := of_decide_eq_false hc) | (with_reducible replace hc := eqT hc) | (with_reducible replace hc := eqF hc) | (with_reducible replace hc := neT hc) | (with_reducible replace hc := neF hc) | (with_reducible replace hc := noT hc) | (with_reducible replace hc := noF hc)) <;> (try (exfalso; omega))))
      exact WQ.rnd (n - (j + 1)) _ _ [1] (by repeat (first | exact Sub.nil | refine Sub.cons rfl ?_ | refine Sub.consE rfl (int_eq (by omega)) ?_)) ⟨by decide, rfl⟩ (by omega) ⟨j + 1, k, ys, by omega, rfl, by omega, hyl, by rw [hft, hyk], by
        rw [← List.drop_drop, ← List.drop_drop, hyd], by rw [hft, hkl], rfl, rfl⟩
    | false =>
      rw [hpx, if_neg (by simp)] at hft
      have hset : (flat Fr.Fp.cs ys).take (0 + k * 8) ++ m.cs ++ (flat Fr.Fp.cs ys).drop (0 + k * 8 + m.cs.length) = flat Fr.Fp.cs (ys.set k m) := by
        rw [Nat.zero_add, Fr.Fp.cs_len, show k * 8 + 8 = (k + 1) * 8 from by omega, ← flat_take Fr.Fp.cs_len, ← flat_drop Fr.Fp.cs_len, List.set_eq_take_append_cons_drop, if_pos (by omega), flat_append, flat_cons, List.append_assoc]
      repeat' (first
    | refine goS ?_
    | ((with_reducible refine WL.isN_bin ?_); first | refine WL.yld rfl binQ ?_)
    | ((with_reducible refine WL.isN_load ?_); first | refine WL.yld rfl loadQ ?_)
    | ((with_reducible refine WL.isN_iaddr ?_); first | refine WL.yld rfl iaddrQ ?_)
    | ((with_reducible refine WL.isN_call ?_); first | refine WL.step rfl (StepTo.callV (v := .bool false) (us := pcv m :: caps) rfl rfl rfl rfl rfl hB (fun w' hw' => hpx ▸ hp w' hw'.ext m hum) ?_) | refine WL.yld rfl lenQ ?_)
    | ((with_reducible refine WL.isN_alloc ?_); first | refine WL.step rfl (StepTo.allocA rfl rfl rfl rfl (fun _ => ?_)) | refine WL.step rfl (StepTo.alloc1 rfl rfl rfl rfl rfl (fun _ => ?_)))
    | ((with_reducible refine WL.isN_store ?_); first | refine WL.step rfl (StepTo.storeRowA (vs := m.cs) 1 rfl rfl rfl rfl rfl rfl (Fr.Fp.cs_one m) rfl (by rw [Fr.Fp.cs_len]; omega) hset setQ ?_) | refine WL.step rfl (StepTo.st1 rfl rfl rfl rfl rfl rfl ?_) | refine WL.step rfl (StepTo.stA rfl rfl rfl rfl rfl rfl rfl ?_) | refine WL.step rfl (StepTo.stR rfl rfl rfl rfl rfl rfl rfl ?_))
    | with_reducible refine WC.block ?_
    | (refine WC.cond rfl (fun hc => ?_) (fun hc => ?_) <;> (try first | (with_reducible replace hc := of_decide_eq_true hc) | (with_reducible replace hc := of_decide_eq_false hc) | (with_reducible replace hc := eqT hc) | (with_reducible replace hc := eqF hc) | (with_reducible replace hc := neT hc) | (with_reducible replace hc := neF hc) | (with_reducible replace hc := noT hc) | (with_reducible replace hc := noF hc)) <;> (try (exfalso; omega))))
      exact WQ.rnd (n - (j + 1)) _ _ [1] (by repeat (first | exact Sub.nil | refine Sub.cons rfl ?_ | refine Sub.consE rfl (int_eq (by omega)) ?_)) ⟨by decide, rfl⟩ (by omega) ⟨j + 1, k + 1, ys.set k m, by omega, rfl, by omega, by rw [List.length_set]; exact hyl, by
        rw [hft, ← hyk]
        have hk : (ys.set k m)[k]? = some m := List.getElem?_set_self (by omega)
        rw [take_snoc hk, List.take_set_of_le (Nat.le_refl _)], by
        rw [List.drop_set_of_lt (by omega), ← List.drop_drop, ← List.drop_drop, hyd], by rw [hft, List.length_append, hkl]; rfl, rfl, rfl⟩
  obtain rfl : n = j := by omega
  have hxt : xs.take n = xs := List.take_of_length_le (by omega)
  rw [hxt] at hyk hkl
  have hcut : (flat Fr.Fp.cs ys).take (k * 8) = flat Fr.Fp.cs (xs.filter fun x => !p x) := by rw [← flat_take Fr.Fp.cs_len, hyk]
  refine WC.capRow 0 rfl fun hcap => ?_
  repeat' (first
    | refine goS ?_
    | ((with_reducible refine WL.isN_bin ?_); first | refine WL.yld rfl binQ ?_)
    | ((with_reducible refine WL.isN_load ?_); first | refine WL.yld rfl loadQ ?_)
    | ((with_reducible refine WL.isN_iaddr ?_); first | refine WL.yld rfl iaddrQ ?_)
    | ((with_reducible refine WL.isN_call ?_); first | refine WL.step rfl (StepTo.clearCut (k := 8) (lo := k) (z := .agg #[.int .u32 0, .bool false, .bool false, .bool false, .int .u16 0, .int .u16 0, .int .u32 0, .string ByteArray.empty]) 0 rfl rfl rfl rfl rfl rfl rfl rfl rfl (by omega) setQ ?_) | refine WL.yld rfl lenQ ?_)
    | ((with_reducible refine WL.isN_alloc ?_); first | refine WL.step rfl (StepTo.allocA rfl rfl rfl rfl (fun _ => ?_)) | refine WL.step rfl (StepTo.alloc1 rfl rfl rfl rfl rfl (fun _ => ?_)))
    | ((with_reducible refine WL.isN_store ?_); first | refine WL.step rfl (StepTo.st1 rfl rfl rfl rfl rfl rfl ?_) | refine WL.step rfl (StepTo.stA rfl rfl rfl rfl rfl rfl rfl ?_) | refine WL.step rfl (StepTo.stR rfl rfl rfl rfl rfl rfl rfl ?_))
    | ((with_reducible refine WL.isN_slice ?_); first | refine WL.step rfl (StepTo.yld (Yld.sliceLo (lo := k) rfl rfl rfl rfl rfl rfl (by omega)) rfl ?_) | refine WL.step rfl (StepTo.yld (Yld.sliceHi (h := k) rfl rfl rfl rfl rfl rfl (by omega)) rfl ?_))
    | with_reducible refine WC.block ?_
    | (refine WC.cond rfl (fun hc => ?_) (fun hc => ?_) <;> (try first | (with_reducible replace hc := of_decide_eq_true hc) | (with_reducible replace hc := of_decide_eq_false hc) | (with_reducible replace hc := eqT hc) | (with_reducible replace hc := eqF hc) | (with_reducible replace hc := neT hc) | (with_reducible replace hc := neF hc) | (with_reducible replace hc := noT hc) | (with_reducible replace hc := noF hc)) <;> (try (exfalso; omega))))
  rw [hcut]
  exact WQ.body (Reads.tmp rfl rfl) fun w' hw' => ⟨_, _, rfl, ⟨k, hkl.symm, rfl, rfl⟩, hw'.toMod (by simp [Item.mine])⟩

theorem Ext.cell {D : Nat → Prop} {w w' : World} {b t : Nat} {cs : List Value} {v : Value} {off : Nat} (h : Ext D w w') (hb : w.heap[b]? = some (.cells cs.toArray t (0, 0))) (hd : ¬ D b) (hc : cs[off]? = some v) : w'.cell? ⟨b, off, none⟩ = some v := by
  have h1 : b < w.heap.size := by
    rcases Nat.lt_or_ge b w.heap.size with h | h
    · exact h
    · rw [Array.getElem?_eq_none h] at hb; cases hb
  have h2 := (h.block b h1 hd).trans hb
  rw [cell_of_row w' b off cs.toArray t (0, 0) h2]
  simpa using hc
theorem clone_w (A : Option Addr) (n c : Nat) (ps : List Fr.Fp) (w : World) (hL : Ps w w.heap.size A n ps) (hn : n ≤ 1000000) (hA : okA A n) {V : Nat → Prop} :
    Calls Try.prog 25 #[.slice A n c] w
      fun e w' => ∃ v N, e = .returned v ∧ (∃ A' c', v = .slice A' n c' ∧ N = [.row A' n c' 34 8 (flat Fr.Fp.cs ps)]) ∧ New V N w w' := by
  have hl := hL.len
  refine enterW (fun _ => False) _ Try.func25 rfl (by simp only [Try.ntmps25, List.length_cons, List.length_nil, Nat.reduceAdd, Nat.reduceSub]; rfl) ?_
  refine WC.addVw Fr.Fp.cs_len hL ?_
  cases A with
  | none =>
    obtain rfl : n = 0 := by rcases hA.1 with h | h; cases h; exact h
    obtain rfl : ps = [] := List.eq_nil_of_length_eq_zero hl
    repeat' (first
    | refine goS ?_
    | ((with_reducible refine WL.isN_bin ?_); first | refine WL.yld rfl (Yld.eqlNil rfl rfl rfl rfl) ?_ | refine WL.yld rfl binQ ?_)
    | ((with_reducible refine WL.isN_call ?_); first | refine WL.step rfl (StepTo.append 0 rfl rfl rfl rfl rfl rfl rfl rfl rfl rfl rfl rfl (by first | exact CellsAt.boxAll 0 rfl | exact CellsAt.boxAll 1 rfl | exact CellsAt.boxAll 2 rfl | exact CellsAt.boxAll 3 rfl | exact CellsAt.boxAll 4 rfl) rfl rfl (by omega) (fun _ _ => ⟨_, setQ, ?_⟩)) | refine WL.step rfl (StepTo.append 1 rfl rfl rfl rfl rfl rfl rfl rfl rfl rfl rfl rfl (by first | exact CellsAt.boxAll 0 rfl | exact CellsAt.boxAll 1 rfl | exact CellsAt.boxAll 2 rfl | exact CellsAt.boxAll 3 rfl | exact CellsAt.boxAll 4 rfl) rfl rfl (by omega) (fun _ _ => ⟨_, setQ, ?_⟩)) | refine WL.step rfl (StepTo.append 2 rfl rfl rfl rfl rfl rfl rfl rfl rfl rfl rfl rfl (by first | exact CellsAt.boxAll 0 rfl | exact CellsAt.boxAll 1 rfl | exact CellsAt.boxAll 2 rfl | exact CellsAt.boxAll 3 rfl | exact CellsAt.boxAll 4 rfl) rfl rfl (by omega) (fun _ _ => ⟨_, setQ, ?_⟩)) | refine WL.step rfl (StepTo.append 3 rfl rfl rfl rfl rfl rfl rfl rfl rfl rfl rfl rfl (by first | exact CellsAt.boxAll 0 rfl | exact CellsAt.boxAll 1 rfl | exact CellsAt.boxAll 2 rfl | exact CellsAt.boxAll 3 rfl | exact CellsAt.boxAll 4 rfl) rfl rfl (by omega) (fun _ _ => ⟨_, setQ, ?_⟩)) | refine WL.step rfl (StepTo.append 4 rfl rfl rfl rfl rfl rfl rfl rfl rfl rfl rfl rfl (by first | exact CellsAt.boxAll 0 rfl | exact CellsAt.boxAll 1 rfl | exact CellsAt.boxAll 2 rfl | exact CellsAt.boxAll 3 rfl | exact CellsAt.boxAll 4 rfl) rfl rfl (by omega) (fun _ _ => ⟨_, setQ, ?_⟩)) | refine WL.step rfl (StepTo.append 5 rfl rfl rfl rfl rfl rfl rfl rfl rfl rfl rfl rfl (by first | exact CellsAt.boxAll 0 rfl | exact CellsAt.boxAll 1 rfl | exact CellsAt.boxAll 2 rfl | exact CellsAt.boxAll 3 rfl | exact CellsAt.boxAll 4 rfl) rfl rfl (by omega) (fun _ _ => ⟨_, setQ, ?_⟩)) | refine WL.step rfl (StepTo.append 6 rfl rfl rfl rfl rfl rfl rfl rfl rfl rfl rfl rfl (by first | exact CellsAt.boxAll 0 rfl | exact CellsAt.boxAll 1 rfl | exact CellsAt.boxAll 2 rfl | exact CellsAt.boxAll 3 rfl | exact CellsAt.boxAll 4 rfl) rfl rfl (by omega) (fun _ _ => ⟨_, setQ, ?_⟩)))
    | ((with_reducible refine WL.isN_bslice ?_); first | refine WL.step rfl (StepTo.buildSlice rfl rfl rfl rfl rfl rfl rfl rfl rfl rfl cellsOfQ (fun _ => ?_)))
    | with_reducible refine WC.block ?_
    | (refine WC.cond rfl (fun hc => ?_) (fun hc => ?_) <;> (try first | (with_reducible replace hc := of_decide_eq_true hc) | (with_reducible replace hc := of_decide_eq_false hc) | (with_reducible replace hc := eqT hc) | (with_reducible replace hc := eqF hc) | (with_reducible replace hc := neT hc) | (with_reducible replace hc := neF hc) | (with_reducible replace hc := noT hc) | (with_reducible replace hc := noF hc)) <;> (try (exfalso; omega))))
    refine WQ.body (Reads.tmp rfl rfl) fun w' hw' => ⟨_, _, rfl, ⟨none, 0, rfl, rfl⟩, new_row (World.ownsRow_nil _ _ _ _) hw'.ext.below⟩
  | some ad =>
    obtain ⟨b, off, spot⟩ := ad
    obtain rfl : spot = none := hA.2 _ rfl
    repeat' (first
    | refine goS ?_
    | ((with_reducible refine WL.isN_bin ?_); first | refine WL.yld rfl (Yld.eqlNil rfl rfl rfl rfl) ?_ | refine WL.yld rfl binQ ?_)
    | ((with_reducible refine WL.isN_call ?_); first | refine WL.step rfl (StepTo.appendB (k := 8) (by_ := 32) 0 rfl rfl rfl rfl rfl rfl rfl rfl rfl rfl rfl (CellsAt.vwAll 1 rfl) (by rw [flat_len Fr.Fp.cs_len, hl]) (flat_one Fr.Fp.cs_one ps) (by omega) (by omega) (fun _ _ => ⟨_, setQ, ?_⟩)) | refine WL.step rfl (StepTo.append 0 rfl rfl rfl rfl rfl rfl rfl rfl rfl rfl rfl rfl (by first | exact CellsAt.boxAll 0 rfl | exact CellsAt.boxAll 1 rfl | exact CellsAt.boxAll 2 rfl | exact CellsAt.boxAll 3 rfl | exact CellsAt.boxAll 4 rfl) rfl rfl (by omega) (fun _ _ => ⟨_, setQ, ?_⟩)) | refine WL.step rfl (StepTo.append 1 rfl rfl rfl rfl rfl rfl rfl rfl rfl rfl rfl rfl (by first | exact CellsAt.boxAll 0 rfl | exact CellsAt.boxAll 1 rfl | exact CellsAt.boxAll 2 rfl | exact CellsAt.boxAll 3 rfl | exact CellsAt.boxAll 4 rfl) rfl rfl (by omega) (fun _ _ => ⟨_, setQ, ?_⟩)) | refine WL.step rfl (StepTo.append 2 rfl rfl rfl rfl rfl rfl rfl rfl rfl rfl rfl rfl (by first | exact CellsAt.boxAll 0 rfl | exact CellsAt.boxAll 1 rfl | exact CellsAt.boxAll 2 rfl | exact CellsAt.boxAll 3 rfl | exact CellsAt.boxAll 4 rfl) rfl rfl (by omega) (fun _ _ => ⟨_, setQ, ?_⟩)) | refine WL.step rfl (StepTo.append 3 rfl rfl rfl rfl rfl rfl rfl rfl rfl rfl rfl rfl (by first | exact CellsAt.boxAll 0 rfl | exact CellsAt.boxAll 1 rfl | exact CellsAt.boxAll 2 rfl | exact CellsAt.boxAll 3 rfl | exact CellsAt.boxAll 4 rfl) rfl rfl (by omega) (fun _ _ => ⟨_, setQ, ?_⟩)) | refine WL.step rfl (StepTo.append 4 rfl rfl rfl rfl rfl rfl rfl rfl rfl rfl rfl rfl (by first | exact CellsAt.boxAll 0 rfl | exact CellsAt.boxAll 1 rfl | exact CellsAt.boxAll 2 rfl | exact CellsAt.boxAll 3 rfl | exact CellsAt.boxAll 4 rfl) rfl rfl (by omega) (fun _ _ => ⟨_, setQ, ?_⟩)) | refine WL.step rfl (StepTo.append 5 rfl rfl rfl rfl rfl rfl rfl rfl rfl rfl rfl rfl (by first | exact CellsAt.boxAll 0 rfl | exact CellsAt.boxAll 1 rfl | exact CellsAt.boxAll 2 rfl | exact CellsAt.boxAll 3 rfl | exact CellsAt.boxAll 4 rfl) rfl rfl (by omega) (fun _ _ => ⟨_, setQ, ?_⟩)) | refine WL.step rfl (StepTo.append 6 rfl rfl rfl rfl rfl rfl rfl rfl rfl rfl rfl rfl (by first | exact CellsAt.boxAll 0 rfl | exact CellsAt.boxAll 1 rfl | exact CellsAt.boxAll 2 rfl | exact CellsAt.boxAll 3 rfl | exact CellsAt.boxAll 4 rfl) rfl rfl (by omega) (fun _ _ => ⟨_, setQ, ?_⟩)))
    | ((with_reducible refine WL.isN_bslice ?_); first | refine WL.step rfl (StepTo.buildNone rfl rfl rfl rfl rfl (fun _ => ?_)) | refine WL.step rfl (StepTo.buildSlice rfl rfl rfl rfl rfl rfl rfl rfl rfl rfl cellsOfQ (fun _ => ?_)))
    | with_reducible refine WC.block ?_
    | (refine WC.cond rfl (fun hc => ?_) (fun hc => ?_) <;> (try first | (with_reducible replace hc := of_decide_eq_true hc) | (with_reducible replace hc := of_decide_eq_false hc) | (with_reducible replace hc := eqT hc) | (with_reducible replace hc := eqF hc) | (with_reducible replace hc := neT hc) | (with_reducible replace hc := neF hc) | (with_reducible replace hc := noT hc) | (with_reducible replace hc := noF hc)) <;> (try (exfalso; omega))))
    refine WQ.body (Reads.tmp rfl rfl) fun w' hw' => ⟨_, _, rfl, ⟨_, _, by rw [Nat.zero_add], rfl⟩, (hw'.pick (idx := [0]) ⟨by decide, by simp⟩).toNew (by simp [Item.mine])⟩
end Go.Proofs.Ytaopomedbbcgcaa
