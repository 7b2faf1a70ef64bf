/- The law FragCuts. -/
import Derived.Test.YtaopomedbbcgcaaFrE
namespace Go.Proofs.Ytaopomedbbcgcaa
open Go.RowKit Go.IntWalk
set_option linter.unusedVariables false
set_option linter.unusedSectionVars false
set_option maxRecDepth 100000

theorem cut_small {s : List UInt8} {m : Int} {r : List (List UInt8)} {e : Int} (h : Fr.cut s m = (r, e)) : r.length ≤ s.length ∧ (e = 0 → r.flatten = s) ∧ (∀ q, (r.take q).flatten.length ≤ s.length) := by
  have h1 := Fr.cut_len (s := s) (m := m)
  have h2 := Fr.cut_text (s := s) (m := m)
  rw [h] at h1 h2
  refine ⟨h1, h2, fun q => ?_⟩
  by_cases he : e = 0
  · have h3 := h2 he
    simp only at h3
    calc (r.take q).flatten.length ≤ r.flatten.length := by
          conv => rhs; rw [← List.take_append_drop q r, List.flatten_append, List.length_append]
          omega
      _ ≤ _ := by rw [h3]; omega
  · unfold Fr.cut at h
    split at h
    · simp only [Prod.mk.injEq] at h
      rw [← h.1]; simp
    split at h
    · simp only [Prod.mk.injEq] at h
      rw [← h.1]; simp
    · simp only [Prod.mk.injEq] at h
      exact absurd h.2.symm he
set_option maxHeartbeats 4000000 in
theorem fragCuts_list (s : List UInt8) (m : Int) (w : World) (hs : s.length ≤ maxLen) :
    Calls Try.prog 3 #[.string (bs s), .int .i64 m] w fun e w' => e = .returned (.bool true) ∧ Below w.heap.size w w' := by
  by_cases g0 : s.length ≤ 30000
  case neg =>
    refine enterW (fun _ => False) _ Try.func3 rfl (by simp only [Try.ntmps3, List.length_cons, List.length_nil, Nat.reduceAdd, Nat.reduceSub]; rfl) ?_
    repeat' (first
    | refine goS ?_
    | ((with_reducible refine WL.isN_bin ?_); first | refine WL.yld rfl binQ ?_)
    | ((with_reducible refine WL.isN_load ?_); first | refine WL.yld rfl loadQ ?_)
    | ((with_reducible refine WL.isN_iaddr ?_); first | refine WL.yld rfl iaddrQ ?_)
    | ((with_reducible refine WL.isN_call ?_); first | refine WL.step rfl (StepTo.callV (v := .bool true) (us := []) rfl rfl rfl rfl rfl (by kernel_rfl) (fun w hw => frshown_q w) ?_) | refine WL.yld rfl (Yld.lenB rfl rfl rfl) ?_ | refine WL.yld rfl lenQ ?_)
    | with_reducible refine WC.block ?_
    | (refine WC.cond rfl (fun hc => ?_) (fun hc => ?_) <;> (try first | (with_reducible replace hc := of_decide_eq_true hc) | (with_reducible replace hc := of_decide_eq_false hc) | (with_reducible replace hc := eqT hc) | (with_reducible replace hc := eqF hc) | (with_reducible replace hc := neT hc) | (with_reducible replace hc := neF hc) | (with_reducible replace hc := noT hc) | (with_reducible replace hc := noF hc)) <;> (try (exfalso; omega))))
    exact WQ.body (Reads.tmp rfl rfl) fun w' hw' => ⟨rfl, hw'.ext.below⟩
  have c1 := fun w {V} => cut_w s m (by omega) w (V := V)
  have c2 := fun w {V} => rcut_w s m (by omega) w (V := V)
  obtain ⟨⟨r, e⟩, hre⟩ : ∃ p, Fr.cut s m = p := ⟨_, rfl⟩
  rw [hre] at c1 c2
  obtain ⟨hr1, hr2, hr3⟩ := cut_small hre
  refine enterW (fun _ => False) _ Try.func3 rfl (by simp only [Try.ntmps3, List.length_cons, List.length_nil, Nat.reduceAdd, Nat.reduceSub]; rfl) ?_
  repeat' (first
    | refine goS ?_
    | ((with_reducible refine WL.isN_bin ?_); first | refine WL.yld rfl binQ ?_)
    | ((with_reducible refine WL.isN_load ?_); first | refine WL.yld rfl loadQ ?_)
    | ((with_reducible refine WL.isN_iaddr ?_); first | refine WL.yld rfl iaddrQ ?_)
    | ((with_reducible refine WL.isN_call ?_); first | refine WL.step rfl (StepTo.callV (v := .bool true) (us := []) rfl rfl rfl rfl rfl (by kernel_rfl) (fun w hw => frshown_q w) ?_) | refine WL.yld rfl (Yld.lenB rfl rfl rfl) ?_ | refine WL.yld rfl lenQ ?_)
    | with_reducible refine WC.block ?_
    | (refine WC.cond rfl (fun hc => ?_) (fun hc => ?_) <;> (try first | (with_reducible replace hc := of_decide_eq_true hc) | (with_reducible replace hc := of_decide_eq_false hc) | (with_reducible replace hc := eqT hc) | (with_reducible replace hc := eqF hc) | (with_reducible replace hc := neT hc) | (with_reducible replace hc := neF hc) | (with_reducible replace hc := noT hc) | (with_reducible replace hc := noF hc)) <;> (try (exfalso; omega))))
  refine WL.step rfl (StepTo.callN [] (us := [.string (bs s), .int .i64 m]) rfl rfl rfl rfl rfl (by kernel_rfl) (fun w hw => c1 w) ?_)
  rintro v N ⟨A1, n1, k1, rfl, ok1, hn1, rfl⟩
  repeat' (first
    | refine goS ?_
    | ((with_reducible refine WL.isN_bin ?_); first | refine WL.yld rfl binQ ?_)
    | ((with_reducible refine WL.isN_load ?_); first | refine WL.yld rfl loadQ ?_)
    | ((with_reducible refine WL.isN_iaddr ?_); first | refine WL.yld rfl iaddrQ ?_)
    | ((with_reducible refine WL.isN_call ?_); first | refine WL.yld rfl lenQ ?_)
    | with_reducible refine WC.block ?_
    | (refine WC.cond rfl (fun hc => ?_) (fun hc => ?_) <;> (try first | (with_reducible replace hc := of_decide_eq_true hc) | (with_reducible replace hc := of_decide_eq_false hc) | (with_reducible replace hc := eqT hc) | (with_reducible replace hc := eqF hc) | (with_reducible replace hc := neT hc) | (with_reducible replace hc := neF hc) | (with_reducible replace hc := noT hc) | (with_reducible replace hc := noF hc)) <;> (try (exfalso; omega))))
  refine WL.step rfl (StepTo.callN [] (us := [.string (bs s), .int .i64 m]) rfl rfl rfl rfl rfl (by kernel_rfl) (fun w hw => c2 w) ?_)
  rintro v N ⟨A2, n2, k2, rfl, ok2, hn2, rfl⟩
  simp only at hn1 hn2
  repeat' (first
    | refine goS ?_
    | ((with_reducible refine WL.isN_bin ?_); first | refine WL.yld rfl binQ ?_)
    | ((with_reducible refine WL.isN_load ?_); first | refine WL.yld rfl loadQ ?_)
    | ((with_reducible refine WL.isN_iaddr ?_); first | refine WL.yld rfl iaddrQ ?_)
    | ((with_reducible refine WL.isN_call ?_); first | refine WL.yld rfl lenQ ?_)
    | with_reducible refine WC.block ?_
    | (refine WC.cond rfl (fun hc => ?_) (fun hc => ?_) <;> (try first | (with_reducible replace hc := of_decide_eq_true hc) | (with_reducible replace hc := of_decide_eq_false hc) | (with_reducible replace hc := eqT hc) | (with_reducible replace hc := eqF hc) | (with_reducible replace hc := neT hc) | (with_reducible replace hc := neF hc) | (with_reducible replace hc := noT hc) | (with_reducible replace hc := noF hc)) <;> (try (exfalso; omega))))
  refine WC.loop (fun mm τ H => ∃ q : Nat, q ≤ n1 ∧ mm = n1 - q ∧
      τ = [(0, .string (bs s)), (6, .slice A1 n1 k1), (7, .int .i64 e), (8, .slice A2 n2 k2), (9, .int .i64 e), (10, .string (bs (r.take q).flatten)), (11, .int .i64 (q : Nat))] ∧
      H = [.vw A2 n2 1 (flat kc r), .vw A1 n1 1 (flat kc r)]) n1 _ _ [0, 1] ?_ ?_ ⟨0, by omega, rfl, rfl, rfl⟩ ?_
  · exact (by repeat (first | exact Sub.nil | refine Sub.cons rfl ?_ | refine Sub.consE rfl (int_eq (by omega)) ?_))
  · exact ⟨by decide, rfl⟩
  rintro mm τ H ⟨q, hq, rfl, rfl, rfl⟩
  have hr3q := hr3 q
  by_cases hqn : q < n1
  · obtain ⟨x, hx⟩ : ∃ x, r[q]? = some x := ⟨_, List.getElem?_eq_getElem (by omega)⟩
    have hxv := kc_get hx
    have htk : (r.take (q + 1)).flatten = (r.take q).flatten ++ x := by rw [List.take_add_one, hx, List.flatten_append]; simp
    have hr3' := hr3 (q + 1)
    rw [htk, List.length_append] at hr3'
    have hcc : Value.string (bs ((r.take q).flatten ++ x)) = .string (bs (r.take (q + 1)).flatten) := by rw [htk]
    refine WC.vwAt 1 rfl (by omega) fun b off hA => ?_
    subst hA
    repeat' (first
    | refine goS ?_
    | ((with_reducible refine WL.isN_bin ?_); first | refine WL.yld rfl ((Yld.concatS rfl rfl rfl (by omega)).as hcc) ?_ | refine WL.yld rfl binQ ?_)
    | ((with_reducible refine WL.isN_load ?_); first | refine WL.yld rfl (Yld.load rfl rfl rfl rfl (CellAt.vwE 1 rfl hxv (by omega))) ?_ | refine WL.yld rfl loadQ ?_)
    | ((with_reducible refine WL.isN_iaddr ?_); first | refine WL.yld rfl (Yld.indexS q rfl rfl rfl rfl rfl rfl hqn) ?_ | refine WL.yld rfl iaddrQ ?_)
    | ((with_reducible refine WL.isN_call ?_); first | refine WL.yld rfl lenQ ?_)
    | with_reducible refine WC.block ?_
    | (refine WC.cond rfl (fun hc => ?_) (fun hc => ?_) <;> (try first | (with_reducible replace hc := of_decide_eq_true hc) | (with_reducible replace hc := of_decide_eq_false hc) | (with_reducible replace hc := eqT hc) | (with_reducible replace hc := eqF hc) | (with_reducible replace hc := neT hc) | (with_reducible replace hc := neF hc) | (with_reducible replace hc := noT hc) | (with_reducible replace hc := noF hc)) <;> (try (exfalso; omega))))
    exact WQ.rnd (n1 - (q + 1)) _ _ [0, 1] (by repeat (first | exact Sub.nil | refine Sub.cons rfl ?_ | refine Sub.consE rfl (int_eq (by omega)) ?_)) ⟨by decide, rfl⟩ (by omega) ⟨q + 1, by omega, rfl, rfl, rfl⟩
  · obtain rfl : q = n1 := by omega
    rw [hn1, List.take_length] at *
    by_cases he : e = 0
    · subst he
      have ht := hr2 rfl
      rw [ht]
      repeat' (first
    | refine goS ?_
    | ((with_reducible refine WL.isN_bin ?_); first | refine WL.yld rfl ((Yld.eqS rfl rfl rfl).as (show Value.bool (s == s) = .bool true by simp)) ?_ | refine WL.yld rfl binQ ?_)
    | ((with_reducible refine WL.isN_load ?_); first | refine WL.yld rfl loadQ ?_)
    | ((with_reducible refine WL.isN_iaddr ?_); first | refine WL.yld rfl iaddrQ ?_)
    | ((with_reducible refine WL.isN_call ?_); first | refine WL.step rfl (StepTo.callV (v := .bool true) (us := [.slice A1 r.length k1, .slice A2 n2 k2]) rfl rfl rfl rfl rfl (by kernel_rfl) (fun w hw => decide_eq_true (rfl : r = r) ▸ texts_q A1 A2 r.length n2 k1 k2 r r w (hw.lst 1 kc_len (by omega) rfl) (hw.lst 0 kc_len (by omega) rfl) (by omega)) ?_) | refine WL.yld rfl lenQ ?_)
    | with_reducible refine WC.block ?_
    | (refine WC.cond rfl (fun hc => ?_) (fun hc => ?_) <;> (try first | (with_reducible replace hc := of_decide_eq_true hc) | (with_reducible replace hc := of_decide_eq_false hc) | (with_reducible replace hc := eqT hc) | (with_reducible replace hc := eqF hc) | (with_reducible replace hc := neT hc) | (with_reducible replace hc := neF hc) | (with_reducible replace hc := noT hc) | (with_reducible replace hc := noF hc)) <;> (try (exfalso; omega))))
      exact WQ.body (Reads.tmp rfl rfl) fun w' hw' => ⟨rfl, hw'.ext.below⟩
    · repeat' (first
    | refine goS ?_
    | ((with_reducible refine WL.isN_bin ?_); first | refine WL.yld rfl ((Yld.eqS rfl rfl rfl)) ?_ | refine WL.yld rfl binQ ?_)
    | ((with_reducible refine WL.isN_load ?_); first | refine WL.yld rfl loadQ ?_)
    | ((with_reducible refine WL.isN_iaddr ?_); first | refine WL.yld rfl iaddrQ ?_)
    | ((with_reducible refine WL.isN_call ?_); first | refine WL.step rfl (StepTo.callV (v := .bool true) (us := [.slice A1 r.length k1, .slice A2 n2 k2]) rfl rfl rfl rfl rfl (by kernel_rfl) (fun w hw => decide_eq_true (rfl : r = r) ▸ texts_q A1 A2 r.length n2 k1 k2 r r w (hw.lst 1 kc_len (by omega) rfl) (hw.lst 0 kc_len (by omega) rfl) (by omega)) ?_) | refine WL.yld rfl lenQ ?_)
    | with_reducible refine WC.block ?_
    | (refine WC.cond rfl (fun hc => ?_) (fun hc => ?_) <;> (try first | (with_reducible replace hc := of_decide_eq_true hc) | (with_reducible replace hc := of_decide_eq_false hc) | (with_reducible replace hc := eqT hc) | (with_reducible replace hc := eqF hc) | (with_reducible replace hc := neT hc) | (with_reducible replace hc := neF hc) | (with_reducible replace hc := noT hc) | (with_reducible replace hc := noF hc)) <;> (try (exfalso; omega))))
      exact WQ.body (Reads.tmp rfl rfl) fun w' hw' => ⟨rfl, hw'.ext.below⟩
theorem fragCuts_walk (a : ByteArray) (m : Int) (w : World) (hs : a.size ≤ maxLen) (hm : (Lit.int .i64 m).wf = true) :
    Calls Try.prog 3 #[.string a, .int .i64 m] w fun e w' => e = .returned (.bool true) ∧ Below w.heap.size w w' := by
  have h := fragCuts_list a.data.toList m w hs
  rw [bs_eta] at h
  exact h
end Go.Proofs.Ytaopomedbbcgcaa
