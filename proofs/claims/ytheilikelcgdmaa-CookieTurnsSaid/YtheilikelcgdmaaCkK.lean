/- Keys: what is built and read under them, of the program and of the document. -/
import Derived.Test.YtheilikelcgdmaaCkE
import Derived.Test.YtheilikelcgdmaaOka
import Derived.Test.YtheilikelcgdmaaMm
namespace Go.Proofs.Ytheilikelcgdmaa
open Go.RowKit Go.IntWalk
set_option linter.unusedVariables false
set_option linter.unusedSectionVars false
set_option maxRecDepth 100000

/-- The cells of texts. -/
def kc (k : List UInt8) : List Value := [.string (bs k)]
theorem kc_len (k : List UInt8) : (kc k).length = 1 := rfl
theorem kc_one (k : List UInt8) : ∀ u ∈ kc k, u.oneCell' = true := by intro u hu; simp [kc] at hu; subst hu; rfl
/-- The document's keys as a list. -/
def two (many : Nat) (new old : List UInt8) : List (List UInt8) := if many = 0 then [] else if many = 1 then [new] else [new, old]
theorem two_cons {many : Nat} {new old : List UInt8} (h : many ≠ 0) : ∃ k r, two many new old = k :: r ∧ k = new ∧ (r = [] ↔ many = 1) ∧ (∀ x y, r = x :: y → x = old ∧ y = []) := by
  unfold two
  rw [if_neg h]
  split
  · exact ⟨_, _, rfl, rfl, by simp [*], by simp⟩
  · exact ⟨_, _, rfl, rfl, by simp [*], by simp +contextual [eq_comm]⟩
theorem kbuild_q (gk : Nat) (A : Option Addr) (n cap : Nat) (since : Int) (ks : List (List UInt8)) (s : Ck.St) (w : World) (hI : InpAt w gk 0 [.slice A n cap, .int .i64 since]) (hL : Lst kc 1 w w.heap.size A n ks) (hk : ∀ k ∈ ks, k.length ≤ 1000000) (hs : s.Ok) (hp : s.peer.length ≤ 1000000) :
    Calls Try.prog 22 #[.pointer (some ⟨gk, 0, none⟩), .agg s.cs.toArray] w fun e w' => e = .returned (.tuple #[.string (bs (Ck.kbuild ks s).1), .int .i64 (Ck.kbuild ks s).2]) ∧ Below w.heap.size w w' := by
  have hn := hL.len
  cases ks with
  | nil =>
    obtain rfl : n = 0 := hn.symm
    refine enterW (fun _ => False) _ Try.func22 rfl (by simp only [Try.ntmps22, List.length_cons, List.length_nil, Nat.reduceAdd, Nat.reduceSub]; rfl) ?_
    repeat' (first
    | refine goS ?_
    | ((with_reducible refine WL.isN_bin ?_); first | refine WL.yld rfl binQ ?_)
    | ((with_reducible refine WL.isN_load ?_); first | refine WL.yld rfl loadQ ?_)
    | ((with_reducible refine WL.isN_iaddr ?_); first | refine WL.yld rfl iaddrQ ?_)
    | ((with_reducible refine WL.isN_call ?_); first | refine WL.yld rfl lenQ ?_)
    | ((with_reducible refine WL.isN_box ?_); first | refine WL.step rfl (StepTo.boxA rfl rfl rfl rfl (fun _ => ?_)) | refine WL.step rfl (StepTo.box1 rfl rfl rfl rfl rfl (fun _ => ?_)))
    | with_reducible refine WC.block ?_
    | (refine WC.cond rfl (fun hc => ?_) (fun hc => ?_) <;> (try first | (with_reducible replace hc := of_decide_eq_true hc) | (with_reducible replace hc := of_decide_eq_false hc) | (with_reducible replace hc := eqT hc) | (with_reducible replace hc := eqF hc) | (with_reducible replace hc := neT hc) | (with_reducible replace hc := neF hc) | (with_reducible replace hc := noT hc) | (with_reducible replace hc := noF hc)) <;> (try (exfalso; omega))))
    exact WQ.body (Reads.tmp2 rfl rfl rfl) fun w' hw' => ⟨rfl, hw'.ext.below⟩
  | cons k r =>
    have hn' : r.length + 1 = n := hn
    have hq := fun w => build_q k (hk k (by simp)) s hs hp w
    have hkr : Ck.kbuild (k :: r) s = Ck.build k s := rfl
    rw [hkr]
    clear hkr
    generalize Ck.build k s = p at *
    obtain ⟨z, e⟩ := p
    simp only at hq ⊢
    have hk0 : (flat kc (k :: r))[0]? = some (.string (bs k)) := rfl
    refine enterW (fun _ => False) _ Try.func22 rfl (by simp only [Try.ntmps22, List.length_cons, List.length_nil, Nat.reduceAdd, Nat.reduceSub]; rfl) ?_
    refine WC.addVw kc_len hL ?_
    refine WC.vwAt 0 rfl (by omega) fun b off hA => ?_
    subst hA
    repeat' (first
    | refine goS ?_
    | ((with_reducible refine WL.isN_bin ?_); first | refine WL.yld rfl binQ ?_)
    | ((with_reducible refine WK.isN_bin ?_); first | refine WK.yld rfl binQ ?_)
    | ((with_reducible refine WL.isN_load ?_); first | refine WL.yld rfl (Yld.load rfl rfl rfl rfl (CellAt.vwE 1 rfl hk0 (by omega))) ?_ | refine WL.yld rfl loadQ ?_)
    | ((with_reducible refine WK.isN_load ?_); first | refine WK.yld rfl (Yld.load rfl rfl rfl rfl (CellAt.vwE 1 rfl hk0 (by omega))) ?_ | refine WK.yld rfl loadQ ?_)
    | ((with_reducible refine WL.isN_iaddr ?_); first | refine WL.yld rfl (Yld.indexS 0 rfl rfl rfl rfl rfl rfl (by omega)) ?_ | refine WL.yld rfl iaddrQ ?_)
    | ((with_reducible refine WK.isN_iaddr ?_); first | refine WK.yld rfl (Yld.indexS 0 rfl rfl rfl rfl rfl rfl (by omega)) ?_ | refine WK.yld rfl iaddrQ ?_)
    | ((with_reducible refine WL.isN_call ?_); first | refine WK.step rfl (Qui.call (v := .tuple #[.string (bs z), .int .i64 e]) (us := [.string (bs k), .agg s.cs.toArray]) rfl rfl rfl (by kernel_rfl) (fun w _ => hq w)) ?_ | refine WL.yld rfl lenQ ?_)
    | ((with_reducible refine WK.isN_call ?_); first | refine WK.step rfl (Qui.call (v := .tuple #[.string (bs z), .int .i64 e]) (us := [.string (bs k), .agg s.cs.toArray]) rfl rfl rfl (by kernel_rfl) (fun w _ => hq w)) ?_ | refine WK.yld rfl lenQ ?_)
    | ((with_reducible refine WL.isN_box ?_); first | refine WL.step rfl (StepTo.boxA rfl rfl rfl rfl (fun _ => ?_)) | refine WL.step rfl (StepTo.box1 rfl rfl rfl rfl rfl (fun _ => ?_)))
    | with_reducible refine WC.block ?_
    | (refine WC.quiet (i := 3) (by kernel_rfl) (by kernel_rfl) ?_)
    | (refine WC.cond rfl (fun hc => ?_) (fun hc => ?_) <;> (try first | (with_reducible replace hc := of_decide_eq_true hc) | (with_reducible replace hc := of_decide_eq_false hc) | (with_reducible replace hc := eqT hc) | (with_reducible replace hc := eqF hc) | (with_reducible replace hc := neT hc) | (with_reducible replace hc := neF hc) | (with_reducible replace hc := noT hc) | (with_reducible replace hc := noF hc)) <;> (try (exfalso; omega))))
    exact WQ.body (Reads.tmp2 rfl rfl rfl) fun w' hw' => ⟨rfl, hw'.ext.below⟩
theorem rkbuild_q (gk many : Nat) (new old : List UInt8) (since : Int) (s : Ck.St) (w : World) (hI : InpAt w gk 0 [.string (bs new), .string (bs old), .int .i64 many, .int .i64 since]) (hk : new.length ≤ 1000000) (hs : s.Ok) (hp : s.peer.length ≤ 1000000) :
    Calls Try.prog 23 #[.pointer (some ⟨gk, 0, none⟩), .agg s.cs.toArray] w fun e w' => e = .returned (.tuple #[.string (bs (Ck.kbuild (two many new old) s).1), .int .i64 (Ck.kbuild (two many new old) s).2]) ∧ Below w.heap.size w w' := by
  by_cases hm0 : many = 0
  · subst hm0
    refine enterW (fun _ => False) _ Try.func23 rfl (by simp only [Try.ntmps23, List.length_cons, List.length_nil, Nat.reduceAdd, Nat.reduceSub]; rfl) ?_
    repeat' (first
    | refine goS ?_
    | ((with_reducible refine WL.isN_bin ?_); first | refine WL.yld rfl binQ ?_)
    | ((with_reducible refine WL.isN_load ?_); first | refine WL.yld rfl loadQ ?_)
    | ((with_reducible refine WL.isN_box ?_); first | refine WL.step rfl (StepTo.boxA rfl rfl rfl rfl (fun _ => ?_)) | refine WL.step rfl (StepTo.box1 rfl rfl rfl rfl rfl (fun _ => ?_)))
    | with_reducible refine WC.block ?_
    | (refine WC.cond rfl (fun hc => ?_) (fun hc => ?_) <;> (try first | (with_reducible replace hc := of_decide_eq_true hc) | (with_reducible replace hc := of_decide_eq_false hc) | (with_reducible replace hc := eqT hc) | (with_reducible replace hc := eqF hc) | (with_reducible replace hc := neT hc) | (with_reducible replace hc := neF hc) | (with_reducible replace hc := noT hc) | (with_reducible replace hc := noF hc)) <;> (try (exfalso; omega))))
    exact WQ.body (Reads.tmp2 rfl rfl rfl) fun w' hw' => ⟨rfl, hw'.ext.below⟩
  · obtain ⟨k, r, hkr, rfl, hr, hro⟩ := two_cons (new := new) (old := old) hm0
    rw [hkr]
    have hq := fun w => rbuild_q k hk s hs hp w
    have hkr : Ck.kbuild (k :: r) s = Ck.build k s := rfl
    rw [hkr]
    clear hkr
    generalize Ck.build k s = p at *
    obtain ⟨z, e⟩ := p
    simp only at hq ⊢
    refine enterW (fun _ => False) _ Try.func23 rfl (by simp only [Try.ntmps23, List.length_cons, List.length_nil, Nat.reduceAdd, Nat.reduceSub]; rfl) ?_
    repeat' (first
    | refine goS ?_
    | ((with_reducible refine WL.isN_bin ?_); first | refine WL.yld rfl binQ ?_)
    | ((with_reducible refine WK.isN_bin ?_); first | refine WK.yld rfl binQ ?_)
    | ((with_reducible refine WL.isN_load ?_); first | refine WL.yld rfl loadQ ?_)
    | ((with_reducible refine WK.isN_load ?_); first | refine WK.yld rfl loadQ ?_)
    | ((with_reducible refine WL.isN_call ?_); first | refine WK.step rfl (Qui.call (v := .tuple #[.string (bs z), .int .i64 e]) (us := [.string (bs k), .agg s.cs.toArray]) rfl rfl rfl (by kernel_rfl) (fun w _ => hq w)) ?_)
    | ((with_reducible refine WK.isN_call ?_); first | refine WK.step rfl (Qui.call (v := .tuple #[.string (bs z), .int .i64 e]) (us := [.string (bs k), .agg s.cs.toArray]) rfl rfl rfl (by kernel_rfl) (fun w _ => hq w)) ?_)
    | ((with_reducible refine WL.isN_box ?_); first | refine WL.step rfl (StepTo.boxA rfl rfl rfl rfl (fun _ => ?_)) | refine WL.step rfl (StepTo.box1 rfl rfl rfl rfl rfl (fun _ => ?_)))
    | with_reducible refine WC.block ?_
    | (refine WC.quiet (i := 3) (by kernel_rfl) (by kernel_rfl) ?_)
    | (refine WC.cond rfl (fun hc => ?_) (fun hc => ?_) <;> (try first | (with_reducible replace hc := of_decide_eq_true hc) | (with_reducible replace hc := of_decide_eq_false hc) | (with_reducible replace hc := eqT hc) | (with_reducible replace hc := eqF hc) | (with_reducible replace hc := neT hc) | (with_reducible replace hc := neF hc) | (with_reducible replace hc := noT hc) | (with_reducible replace hc := noF hc)) <;> (try (exfalso; omega))))
    exact WQ.body (Reads.tmp2 rfl rfl rfl) fun w' hw' => ⟨rfl, hw'.ext.below⟩
end Go.Proofs.Ytheilikelcgdmaa
