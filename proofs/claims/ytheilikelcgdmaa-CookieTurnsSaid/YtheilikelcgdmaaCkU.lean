/- The law CookieNews. -/
import Derived.Test.YtheilikelcgdmaaCkL
namespace Go.Proofs.Ytheilikelcgdmaa
open Go.RowKit Go.IntWalk
set_option linter.unusedVariables false
set_option linter.unusedSectionVars false
set_option maxRecDepth 100000

section
open Go.ChangeShapes Go.WideShapes Go.ChangeAt Go.Deep
variable {H : Type} {enc : TypeId × Value → H} {w : World} {base : Nat} {spare : Nat → Bool} {held : Bool}
theorem open_keys {r : Reach} {b0 : Nat} {v : Value} {d : DataW H} {p : List MemPlace} (hv : Value.okWide Try.prog w r b0 46 v) (h : DataW.Trod enc Try.prog w base spare held 46 v d p) :
    ∃ A n c xs, v = .slice A n c ∧ Lst kc 1 w w.heap.size A n xs ∧ (∀ a ∈ xs, a.length ≤ maxLen) := by
  obtain ⟨A0, n0, c0, rfl⟩ := okWide_slice Try.underlying46 hv
  obtain ⟨fuel, hf⟩ := h
  have hok : Cell.okWide Try.prog w r b0 46 (.slice A0 n0 c0) := by
    unfold Value.okWide at hv
    rw [Try.underlying46] at hv
    exact hv
  obtain ⟨A, n, c, xs, h1, h2, hw, _⟩ := open_list (enc := kc) (k := 1) [] (fun a => a.length ≤ maxLen) Try.underlying46 (by kernel_rfl) (by omega) kc_len (c1 := .slice A0 n0 c0) hf (fun n cs' z hl hz => by
    match cs', hl with
    | [c0], _ =>
      obtain ⟨a5, f5, _, w5⟩ := DataW.trod_string Try.underlying9 hz
      simp only [List.cons.injEq, and_true] at f5
      subst f5
      exact ⟨a5.data.toList, w5, by rw [kc, bs_eta]⟩) (spot_of_cell Try.underlying46 hok)
  exact ⟨A, n, c, xs, h1, h2, hw⟩
end
theorem neS_self {x : List UInt8} : Value.bool (!(x == x)) = .bool false := by simp
theorem Ck.kread_own {k c : List UInt8} {r : List (List UInt8)} {since : Int} {s : Ck.St} (h : Ck.read k c = (s, 0)) (hl : 0 ≤ s.life) : Ck.kread (k :: r) since c s.made = (s, 0) := by
  rw [Ck.kread, h, if_neg (by simp), Ck.kfin, if_neg (by simp), if_neg (by simp; omega)]
set_option maxHeartbeats 4000000 in
/-- What is too short to be a cookie. -/
theorem kshort_q (gk : Nat) (A : Option Addr) (n cap : Nat) (since now : Int) (k : List UInt8) (r : List (List UInt8)) (c : List UInt8) (w : World) (hI : InpAt w gk 0 [.slice A n cap, .int .i64 since]) (hL : Lst kc 1 w w.heap.size A n (k :: r)) (hk : k.length ≤ 1000000) (hc : c.length < 32) :
    Calls Try.prog 24 #[.pointer (some ⟨gk, 0, none⟩), .string (bs c), .int .i64 now] w fun e w' => e = .returned (.tuple #[.agg Ck.St.zero.cs.toArray, .int .i64 3]) ∧ Below w.heap.size w w' := by
  have hn := hL.len
  have hn' : r.length + 1 = n := hn
  have hq := fun w => read_q k c hk (by omega) w
  rw [Ck.read_less hc] at hq
  simp only at hq
  have hk0 : (flat kc (k :: r))[0]? = some (.string (bs k)) := rfl
  refine enterW (fun _ => False) _ Try.func24 rfl (by simp only [Try.ntmps24, List.length_cons, List.length_nil, Nat.reduceAdd, Nat.reduceSub]; rfl) ?_
  refine WC.addVw kc_len hL ?_
  refine WC.vwAt 0 rfl (by omega) fun b off hA => ?_
  subst hA
  repeat' (first
    | refine goS ?_
    | ((with_reducible refine WL.isN_bin ?_); first | refine WL.yld rfl binQ ?_)
    | ((with_reducible refine WL.isN_load ?_); first | refine WL.yld rfl (Yld.load rfl rfl rfl rfl (CellAt.vwE 1 rfl hk0 (by omega))) ?_ | refine WL.yld rfl loadQ ?_)
    | ((with_reducible refine WL.isN_iaddr ?_); first | refine WL.yld rfl (Yld.indexS 0 rfl rfl rfl rfl rfl rfl (by omega)) ?_ | refine WL.yld rfl iaddrQ ?_)
    | ((with_reducible refine WL.isN_build ?_); first | refine WL.yld rfl buildQ ?_)
    | ((with_reducible refine WL.isN_call ?_); first | refine WL.step rfl (StepTo.callV (v := .tuple #[.agg Ck.St.zero.cs.toArray, .int .i64 3]) (us := [.string (bs k), .string (bs c)]) rfl rfl rfl rfl rfl (by kernel_rfl) (fun w hw => hq w) ?_) | refine WL.yld rfl lenQ ?_)
    | ((with_reducible refine WL.isN_alloc ?_); first | refine WL.step rfl (StepTo.allocA rfl rfl rfl rfl (fun _ => ?_)) | refine WL.step rfl (StepTo.alloc1 rfl rfl rfl rfl rfl (fun _ => ?_)))
    | ((with_reducible refine WL.isN_store ?_); first | refine WL.step rfl (StepTo.st1 rfl rfl rfl rfl rfl rfl ?_) | refine WL.step rfl (StepTo.stA rfl rfl rfl rfl rfl rfl rfl ?_) | refine WL.step rfl (StepTo.stR rfl rfl rfl rfl rfl rfl rfl ?_))
    | with_reducible refine WC.block ?_
    | (refine WC.cond rfl (fun hc => ?_) (fun hc => ?_) <;> (try first | (with_reducible replace hc := of_decide_eq_true hc) | (with_reducible replace hc := of_decide_eq_false hc) | (with_reducible replace hc := eqT hc) | (with_reducible replace hc := eqF hc) | (with_reducible replace hc := neT hc) | (with_reducible replace hc := neF hc) | (with_reducible replace hc := noT hc) | (with_reducible replace hc := noF hc)) <;> (try (exfalso; omega))))
  exact WQ.body (Reads.two rfl (Res1.cellA rfl rfl rfl rfl (AggAt.box 1 rfl rfl)) (Res1.tmp rfl)) fun w' hw' => ⟨rfl, hw'.ext.below⟩
set_option maxHeartbeats 4000000 in
theorem cookieNews_walk (A : Option Addr) (n c : Nat) (keys : List (List UInt8)) (s : Ck.St) (w : World) (hL : Lst kc 1 w w.heap.size A n keys) (hkl : ∀ a ∈ keys, a.length ≤ maxLen) (h1 : s.Ok ∧ s.peer.length ≤ maxLen ∧ (-9223372036854775808 ≤ s.made ∧ s.made ≤ 9223372036854775807) ∧ (-9223372036854775808 ≤ s.life ∧ s.life ≤ 9223372036854775807)) :
    Calls Try.prog 8 #[.slice A n c, .agg s.cs.toArray] w fun e w' => e = .returned (.bool true) ∧ Below w.heap.size w w' := by
  have hn := hL.len
  obtain ⟨hs, hp, _, _⟩ := h1
  have sq := fun w => short_q s hp w
  by_cases g0 : s.peer.length ≤ 300
  case neg =>
    rw [decide_eq_false g0] at sq
    refine enterW (fun _ => False) _ Try.func8 rfl (by simp only [Try.ntmps8, List.length_cons, List.length_nil, Nat.reduceAdd, Nat.reduceSub]; rfl) ?_
    repeat' (first
    | refine goS ?_
    | ((with_reducible refine WL.isN_bin ?_); first | refine WL.yld rfl binQ ?_)
    | ((with_reducible refine WL.isN_load ?_); first | refine WL.yld rfl loadQ ?_)
    | ((with_reducible refine WL.isN_iaddr ?_); first | refine WL.yld rfl iaddrQ ?_)
    | ((with_reducible refine WL.isN_build ?_); first | refine WL.yld rfl buildQ ?_)
    | ((with_reducible refine WL.isN_call ?_); first | refine WL.step rfl (StepTo.callV (v := .bool true) (us := []) rfl rfl rfl rfl rfl (by kernel_rfl) (fun w hw => ckshown_q w) ?_) | refine WL.step rfl (StepTo.callV (v := .bool false) (us := [.agg s.cs.toArray]) rfl rfl rfl rfl rfl (by kernel_rfl) (fun w hw => sq w) ?_) | refine WL.yld rfl (Yld.lenB rfl rfl rfl) ?_ | refine WL.yld rfl lenQ ?_)
    | ((with_reducible refine WL.isN_box ?_); first | refine WL.step rfl (StepTo.boxA rfl rfl rfl rfl (fun _ => ?_)) | refine WL.step rfl (StepTo.box1 rfl rfl rfl rfl rfl (fun _ => ?_)))
    | ((with_reducible refine WL.isN_alloc ?_); first | refine WL.step rfl (StepTo.allocA rfl rfl rfl rfl (fun _ => ?_)) | refine WL.step rfl (StepTo.alloc1 rfl rfl rfl rfl rfl (fun _ => ?_)))
    | ((with_reducible refine WL.isN_store ?_); first | refine WL.step rfl (StepTo.st1 rfl rfl rfl rfl rfl rfl ?_) | refine WL.step rfl (StepTo.stA rfl rfl rfl rfl rfl rfl rfl ?_) | refine WL.step rfl (StepTo.stR rfl rfl rfl rfl rfl rfl rfl ?_))
    | with_reducible refine WC.block ?_
    | (refine WC.cond rfl (fun hc => ?_) (fun hc => ?_) <;> (try first | (with_reducible replace hc := of_decide_eq_true hc) | (with_reducible replace hc := of_decide_eq_false hc) | (with_reducible replace hc := eqT hc) | (with_reducible replace hc := eqF hc) | (with_reducible replace hc := neT hc) | (with_reducible replace hc := neF hc) | (with_reducible replace hc := noT hc) | (with_reducible replace hc := noF hc)) <;> (try (exfalso; omega))))
    exact WQ.body (Reads.tmp rfl rfl) fun w' hw' => ⟨rfl, hw'.ext.below⟩
  rw [decide_eq_true g0] at sq
  by_cases g1 : n ≤ 10
  case neg =>
    refine enterW (fun _ => False) _ Try.func8 rfl (by simp only [Try.ntmps8, List.length_cons, List.length_nil, Nat.reduceAdd, Nat.reduceSub]; rfl) ?_
    repeat' (first
    | refine goS ?_
    | ((with_reducible refine WL.isN_bin ?_); first | refine WL.yld rfl binQ ?_)
    | ((with_reducible refine WL.isN_load ?_); first | refine WL.yld rfl loadQ ?_)
    | ((with_reducible refine WL.isN_iaddr ?_); first | refine WL.yld rfl iaddrQ ?_)
    | ((with_reducible refine WL.isN_build ?_); first | refine WL.yld rfl buildQ ?_)
    | ((with_reducible refine WL.isN_call ?_); first | refine WL.step rfl (StepTo.callV (v := .bool true) (us := []) rfl rfl rfl rfl rfl (by kernel_rfl) (fun w hw => ckshown_q w) ?_) | refine WL.step rfl (StepTo.callV (v := .bool true) (us := [.agg s.cs.toArray]) rfl rfl rfl rfl rfl (by kernel_rfl) (fun w hw => sq w) ?_) | refine WL.yld rfl (Yld.lenB rfl rfl rfl) ?_ | refine WL.yld rfl lenQ ?_)
    | ((with_reducible refine WL.isN_box ?_); first | refine WL.step rfl (StepTo.boxA rfl rfl rfl rfl (fun _ => ?_)) | refine WL.step rfl (StepTo.box1 rfl rfl rfl rfl rfl (fun _ => ?_)))
    | ((with_reducible refine WL.isN_alloc ?_); first | refine WL.step rfl (StepTo.allocA rfl rfl rfl rfl (fun _ => ?_)) | refine WL.step rfl (StepTo.alloc1 rfl rfl rfl rfl rfl (fun _ => ?_)))
    | ((with_reducible refine WL.isN_store ?_); first | refine WL.step rfl (StepTo.st1 rfl rfl rfl rfl rfl rfl ?_) | refine WL.step rfl (StepTo.stA rfl rfl rfl rfl rfl rfl rfl ?_) | refine WL.step rfl (StepTo.stR rfl rfl rfl rfl rfl rfl rfl ?_))
    | with_reducible refine WC.block ?_
    | (refine WC.cond rfl (fun hc => ?_) (fun hc => ?_) <;> (try first | (with_reducible replace hc := of_decide_eq_true hc) | (with_reducible replace hc := of_decide_eq_false hc) | (with_reducible replace hc := eqT hc) | (with_reducible replace hc := eqF hc) | (with_reducible replace hc := neT hc) | (with_reducible replace hc := neF hc) | (with_reducible replace hc := noT hc) | (with_reducible replace hc := noF hc)) <;> (try (exfalso; omega))))
    exact WQ.body (Reads.tmp rfl rfl) fun w' hw' => ⟨rfl, hw'.ext.below⟩
  by_cases g2 : n = 0
  case pos =>
    refine enterW (fun _ => False) _ Try.func8 rfl (by simp only [Try.ntmps8, List.length_cons, List.length_nil, Nat.reduceAdd, Nat.reduceSub]; rfl) ?_
    repeat' (first
    | refine goS ?_
    | ((with_reducible refine WL.isN_bin ?_); first | refine WL.yld rfl binQ ?_)
    | ((with_reducible refine WL.isN_load ?_); first | refine WL.yld rfl loadQ ?_)
    | ((with_reducible refine WL.isN_iaddr ?_); first | refine WL.yld rfl iaddrQ ?_)
    | ((with_reducible refine WL.isN_build ?_); first | refine WL.yld rfl buildQ ?_)
    | ((with_reducible refine WL.isN_call ?_); first | refine WL.step rfl (StepTo.callV (v := .bool true) (us := []) rfl rfl rfl rfl rfl (by kernel_rfl) (fun w hw => ckshown_q w) ?_) | refine WL.step rfl (StepTo.callV (v := .bool true) (us := [.agg s.cs.toArray]) rfl rfl rfl rfl rfl (by kernel_rfl) (fun w hw => sq w) ?_) | refine WL.yld rfl (Yld.lenB rfl rfl rfl) ?_ | refine WL.yld rfl lenQ ?_)
    | ((with_reducible refine WL.isN_box ?_); first | refine WL.step rfl (StepTo.boxA rfl rfl rfl rfl (fun _ => ?_)) | refine WL.step rfl (StepTo.box1 rfl rfl rfl rfl rfl (fun _ => ?_)))
    | ((with_reducible refine WL.isN_alloc ?_); first | refine WL.step rfl (StepTo.allocA rfl rfl rfl rfl (fun _ => ?_)) | refine WL.step rfl (StepTo.alloc1 rfl rfl rfl rfl rfl (fun _ => ?_)))
    | ((with_reducible refine WL.isN_store ?_); first | refine WL.step rfl (StepTo.st1 rfl rfl rfl rfl rfl rfl ?_) | refine WL.step rfl (StepTo.stA rfl rfl rfl rfl rfl rfl rfl ?_) | refine WL.step rfl (StepTo.stR rfl rfl rfl rfl rfl rfl rfl ?_))
    | with_reducible refine WC.block ?_
    | (refine WC.cond rfl (fun hc => ?_) (fun hc => ?_) <;> (try first | (with_reducible replace hc := of_decide_eq_true hc) | (with_reducible replace hc := of_decide_eq_false hc) | (with_reducible replace hc := eqT hc) | (with_reducible replace hc := eqF hc) | (with_reducible replace hc := neT hc) | (with_reducible replace hc := neF hc) | (with_reducible replace hc := noT hc) | (with_reducible replace hc := noF hc)) <;> (try (exfalso; omega))))
    exact WQ.body (Reads.tmp rfl rfl) fun w' hw' => ⟨rfl, hw'.ext.below⟩
  refine enterW (fun _ => False) _ Try.func8 rfl (by simp only [Try.ntmps8, List.length_cons, List.length_nil, Nat.reduceAdd, Nat.reduceSub]; rfl) ?_
  refine WC.addVw kc_len hL ?_
  refine WC.vwAt 0 rfl (by omega) fun bK oK hA => ?_
  subst hA
  refine WC.nilVw 1 ?_
  repeat' (first
    | refine goS ?_
    | ((with_reducible refine WL.isN_bin ?_); first | refine WL.yld rfl binQ ?_)
    | ((with_reducible refine WL.isN_load ?_); first | refine WL.yld rfl loadQ ?_)
    | ((with_reducible refine WL.isN_iaddr ?_); first | refine WL.yld rfl iaddrQ ?_)
    | ((with_reducible refine WL.isN_build ?_); first | refine WL.yld rfl buildQ ?_)
    | ((with_reducible refine WL.isN_call ?_); first | refine WL.step rfl (StepTo.callV (v := .bool true) (us := []) rfl rfl rfl rfl rfl (by kernel_rfl) (fun w hw => ckshown_q w) ?_) | refine WL.step rfl (StepTo.callV (v := .bool true) (us := [.agg s.cs.toArray]) rfl rfl rfl rfl rfl (by kernel_rfl) (fun w hw => sq w) ?_) | refine WL.yld rfl (Yld.lenB rfl rfl rfl) ?_ | refine WL.yld rfl lenQ ?_)
    | ((with_reducible refine WL.isN_box ?_); first | refine WL.step rfl (StepTo.boxA rfl rfl rfl rfl (fun _ => ?_)) | refine WL.step rfl (StepTo.box1 rfl rfl rfl rfl rfl (fun _ => ?_)))
    | ((with_reducible refine WL.isN_alloc ?_); first | refine WL.step rfl (StepTo.allocA rfl rfl rfl rfl (fun _ => ?_)) | refine WL.step rfl (StepTo.alloc1 rfl rfl rfl rfl rfl (fun _ => ?_)))
    | ((with_reducible refine WL.isN_store ?_); first | refine WL.step rfl (StepTo.st1 rfl rfl rfl rfl rfl rfl ?_) | refine WL.step rfl (StepTo.stA rfl rfl rfl rfl rfl rfl rfl ?_) | refine WL.step rfl (StepTo.stR rfl rfl rfl rfl rfl rfl rfl ?_))
    | with_reducible refine WC.block ?_
    | (refine WC.cond rfl (fun hc => ?_) (fun hc => ?_) <;> (try first | (with_reducible replace hc := of_decide_eq_true hc) | (with_reducible replace hc := of_decide_eq_false hc) | (with_reducible replace hc := eqT hc) | (with_reducible replace hc := eqF hc) | (with_reducible replace hc := neT hc) | (with_reducible replace hc := neF hc) | (with_reducible replace hc := noT hc) | (with_reducible replace hc := noF hc)) <;> (try (exfalso; omega))))
  rename_i bS bG
  refine WC.loop (fun mm τ H => ∃ (i : Nat) (A1 : Option Addr) (n1 c1 : Nat) (since : Int) (ks : List (List UInt8)), i ≤ n ∧ mm = n - i ∧ okA A1 n1 ∧ n1 ≤ 2 ∧ ks.length = n1 ∧ (∀ k ∈ ks, k.length ≤ 1000000) ∧
    τ = [(0, .slice (some ⟨bK, oK, none⟩) n c), (3, .pointer (some ⟨bS, 0, none⟩)), (7, .pointer (some ⟨bG, 0, none⟩)), (8, .int .i64 (i : Nat))] ∧
    H = [.box bG 48 [.slice A1 n1 c1, .int .i64 since], .vw A1 n1 1 (flat kc ks), .box bS 25 s.cs, .vw (some ⟨bK, oK, none⟩) n 1 (flat kc keys)]) n _ _ [0, 2, 1, 3] ?_ ?_ ⟨0, none, 0, 0, 0, [], by omega, rfl, okA_nil, by omega, rfl, by simp, rfl, rfl⟩ ?_
  · exact (by repeat (first | exact Sub.nil | refine Sub.cons rfl ?_ | refine Sub.consE rfl (int_eq (by omega)) ?_))
  · exact ⟨by decide, rfl⟩
  rintro mm τ H ⟨i, A1, n1, c1, since, ks, hi, rfl, hA1, hn1, hkn, hks, rfl, rfl⟩
  by_cases hin : i < n
  case neg =>
    obtain rfl : i = n := by omega
    repeat' (first
    | refine goS ?_
    | ((with_reducible refine WL.isN_bin ?_); first | refine WL.yld rfl binQ ?_)
    | ((with_reducible refine WL.isN_load ?_); first | refine WL.yld rfl loadQ ?_)
    | ((with_reducible refine WL.isN_iaddr ?_); first | refine WL.yld rfl iaddrQ ?_)
    | ((with_reducible refine WL.isN_build ?_); first | refine WL.yld rfl buildQ ?_)
    | ((with_reducible refine WL.isN_call ?_); first | refine WL.yld rfl lenQ ?_)
    | ((with_reducible refine WL.isN_box ?_); first | refine WL.step rfl (StepTo.boxA rfl rfl rfl rfl (fun _ => ?_)) | refine WL.step rfl (StepTo.box1 rfl rfl rfl rfl rfl (fun _ => ?_)))
    | ((with_reducible refine WL.isN_alloc ?_); first | refine WL.step rfl (StepTo.allocA rfl rfl rfl rfl (fun _ => ?_)) | refine WL.step rfl (StepTo.alloc1 rfl rfl rfl rfl rfl (fun _ => ?_)))
    | ((with_reducible refine WL.isN_store ?_); first | refine WL.step rfl (StepTo.st1 rfl rfl rfl rfl rfl rfl ?_) | refine WL.step rfl (StepTo.stA rfl rfl rfl rfl rfl rfl rfl ?_) | refine WL.step rfl (StepTo.stR rfl rfl rfl rfl rfl rfl rfl ?_))
    | with_reducible refine WC.block ?_
    | (refine WC.cond rfl (fun hc => ?_) (fun hc => ?_) <;> (try first | (with_reducible replace hc := of_decide_eq_true hc) | (with_reducible replace hc := of_decide_eq_false hc) | (with_reducible replace hc := eqT hc) | (with_reducible replace hc := eqF hc) | (with_reducible replace hc := neT hc) | (with_reducible replace hc := neF hc) | (with_reducible replace hc := noT hc) | (with_reducible replace hc := noF hc)) <;> (try (exfalso; omega))))
    exact WQ.body (Reads.tmp rfl rfl) fun w' hw' => ⟨rfl, hw'.ext.below⟩
  obtain ⟨key, hkey⟩ : ∃ key, keys[i]? = some key := ⟨_, List.getElem?_eq_getElem (by omega)⟩
  have hkv : (flat kc keys)[i]? = some (.string (bs key)) := by rw [flat_kc, List.getElem?_map, hkey]; rfl
  by_cases g3 : key.length ≤ 200
  case neg =>
    repeat' (first
    | refine goS ?_
    | ((with_reducible refine WL.isN_bin ?_); first | refine WL.yld rfl binQ ?_)
    | ((with_reducible refine WL.isN_load ?_); first | refine WL.yld rfl (Yld.load rfl rfl rfl rfl (CellAt.vwE 3 rfl hkv (by omega))) ?_ | refine WL.yld rfl loadQ ?_)
    | ((with_reducible refine WL.isN_iaddr ?_); first | refine WL.yld rfl (Yld.indexS i rfl rfl rfl rfl rfl rfl hin) ?_ | refine WL.yld rfl iaddrQ ?_)
    | ((with_reducible refine WL.isN_build ?_); first | refine WL.yld rfl buildQ ?_)
    | ((with_reducible refine WL.isN_call ?_); first | refine WL.yld rfl (Yld.lenB rfl rfl rfl) ?_ | refine WL.yld rfl lenQ ?_)
    | ((with_reducible refine WL.isN_box ?_); first | refine WL.step rfl (StepTo.boxA rfl rfl rfl rfl (fun _ => ?_)) | refine WL.step rfl (StepTo.box1 rfl rfl rfl rfl rfl (fun _ => ?_)))
    | ((with_reducible refine WL.isN_alloc ?_); first | refine WL.step rfl (StepTo.allocA rfl rfl rfl rfl (fun _ => ?_)) | refine WL.step rfl (StepTo.alloc1 rfl rfl rfl rfl rfl (fun _ => ?_)))
    | ((with_reducible refine WL.isN_store ?_); first | refine WL.step rfl (StepTo.st1 rfl rfl rfl rfl rfl rfl ?_) | refine WL.step rfl (StepTo.stA rfl rfl rfl rfl rfl rfl rfl ?_) | refine WL.step rfl (StepTo.stR rfl rfl rfl rfl rfl rfl rfl ?_))
    | with_reducible refine WC.block ?_
    | (refine WC.cond rfl (fun hc => ?_) (fun hc => ?_) <;> (try first | (with_reducible replace hc := of_decide_eq_true hc) | (with_reducible replace hc := of_decide_eq_false hc) | (with_reducible replace hc := eqT hc) | (with_reducible replace hc := eqF hc) | (with_reducible replace hc := neT hc) | (with_reducible replace hc := neF hc) | (with_reducible replace hc := noT hc) | (with_reducible replace hc := noF hc)) <;> (try (exfalso; omega))))
    exact WQ.body (Reads.tmp rfl rfl) fun w' hw' => ⟨rfl, hw'.ext.below⟩
  repeat' (first
    | refine goS ?_
    | ((with_reducible refine WL.isN_bin ?_); first | refine WL.yld rfl binQ ?_)
    | ((with_reducible refine WL.isN_load ?_); first | refine WL.yld rfl (Yld.load rfl rfl rfl rfl (CellAt.vwE 3 rfl hkv (by omega))) ?_ | refine WL.yld rfl loadQ ?_)
    | ((with_reducible refine WL.isN_iaddr ?_); first | refine WL.yld rfl (Yld.indexS i rfl rfl rfl rfl rfl rfl hin) ?_ | refine WL.yld rfl iaddrQ ?_)
    | ((with_reducible refine WL.isN_build ?_); first | refine WL.yld rfl buildQ ?_)
    | ((with_reducible refine WL.isN_call ?_); first | refine WL.yld rfl (Yld.lenB rfl rfl rfl) ?_ | refine WL.yld rfl lenQ ?_)
    | ((with_reducible refine WL.isN_box ?_); first | refine WL.step rfl (StepTo.boxA rfl rfl rfl rfl (fun _ => ?_)) | refine WL.step rfl (StepTo.box1 rfl rfl rfl rfl rfl (fun _ => ?_)))
    | ((with_reducible refine WL.isN_alloc ?_); first | refine WL.step rfl (StepTo.allocA rfl rfl rfl rfl (fun _ => ?_)) | refine WL.step rfl (StepTo.alloc1 rfl rfl rfl rfl rfl (fun _ => ?_)))
    | ((with_reducible refine WL.isN_store ?_); first | refine WL.step rfl (StepTo.st1 rfl rfl rfl rfl rfl rfl ?_) | refine WL.step rfl (StepTo.stA rfl rfl rfl rfl rfl rfl rfl ?_) | refine WL.step rfl (StepTo.stR rfl rfl rfl rfl rfl rfl rfl ?_))
    | with_reducible refine WC.block ?_
    | (refine WC.cond rfl (fun hc => ?_) (fun hc => ?_) <;> (try first | (with_reducible replace hc := of_decide_eq_true hc) | (with_reducible replace hc := of_decide_eq_false hc) | (with_reducible replace hc := eqT hc) | (with_reducible replace hc := eqF hc) | (with_reducible replace hc := neT hc) | (with_reducible replace hc := neF hc) | (with_reducible replace hc := noT hc) | (with_reducible replace hc := noF hc)) <;> (try (exfalso; omega))))
  refine WL.step rfl (StepTo.callP (us := [.pointer (some ⟨bG, 0, none⟩), .string (bs key), .int .i64 (i : Nat)]) (HI := [.box bG 48 [.slice A1 n1 c1, .int .i64 since]]) [0] [2, 3] ⟨by decide, rfl⟩ rfl ⟨by decide, rfl⟩ rfl rfl rfl rfl rfl rfl (by kernel_rfl) (fun w hw hS => kturn_w bG A1 n1 c1 since i ks key hA1 hn1 hkn w (hw.aloneV (idx := [0, 1]) (C := [.vw A1 n1 1 (flat kc ks)]) ⟨by decide, rfl⟩ (by simp [Item.mine]))) ?_)
  rintro v NN ⟨A2, n2, c2, rfl, hA2, hn2, rfl⟩
  have hks2 : ∀ k ∈ (key :: ks).take 2, k.length ≤ 1000000 := fun k hk => by
    rcases List.mem_cons.1 (List.mem_of_mem_take hk) with rfl | hk
    · omega
    · exact hks k hk
  have hn22 : n2 ≤ 2 := by rw [hn2, List.length_take]; omega
  obtain ⟨r, hr⟩ : ∃ r, (key :: ks).take 2 = key :: r := ⟨ks.take 1, rfl⟩
  rw [hr] at hks2 hn2 ⊢
  clear hr hks
  have q1 := fun w hI hL => kbuild_q bG A2 n2 c2 i (key :: r) s w hI hL hks2 hs (by omega)
  have q2 := fun w => build_q key (by omega) s hs (by omega) w
  have hkb : Ck.kbuild (key :: r) s = Ck.build key s := rfl
  rw [hkb] at q1
  clear hkb
  cases hrt : Ck.right s with
  | false =>
    rw [Ck.build_no hrt] at q1 q2
    simp only at q1 q2
    have q3 := fun w hI hL => kshort_q bG A2 n2 c2 i s.made key r [] w hI hL (by omega) (by simp)
    repeat' (first
    | refine goS ?_
    | ((with_reducible refine WL.isN_bin ?_); first | refine WL.yld rfl ((Yld.neS rfl rfl rfl).as (by simp)) ?_ | refine WL.yld rfl binQ ?_)
    | ((with_reducible refine WK.isN_bin ?_); first | refine WK.yld rfl ((Yld.neS rfl rfl rfl).as (by simp)) ?_ | refine WK.yld rfl binQ ?_)
    | ((with_reducible refine WL.isN_load ?_); first | refine WL.yld rfl (Yld.load rfl rfl rfl rfl (CellAt.vwE 3 rfl hkv (by omega))) ?_ | refine WL.yld rfl loadQ ?_)
    | ((with_reducible refine WK.isN_load ?_); first | refine WK.yld rfl (Yld.load rfl rfl rfl rfl (CellAt.vwE 3 rfl hkv (by omega))) ?_ | refine WK.yld rfl loadQ ?_)
    | ((with_reducible refine WL.isN_iaddr ?_); first | refine WL.yld rfl (Yld.indexS i rfl rfl rfl rfl rfl rfl hin) ?_ | refine WL.yld rfl iaddrQ ?_)
    | ((with_reducible refine WK.isN_iaddr ?_); first | refine WK.yld rfl (Yld.indexS i rfl rfl rfl rfl rfl rfl hin) ?_ | refine WK.yld rfl iaddrQ ?_)
    | ((with_reducible refine WL.isN_build ?_); first | refine WL.yld rfl buildQ ?_)
    | ((with_reducible refine WK.isN_build ?_); first | refine WK.yld rfl buildQ ?_)
    | ((with_reducible refine WL.isN_call ?_); first | refine WL.step rfl (StepTo.callV (v := .tuple #[.string (bs []), .int .i64 1]) (us := [.pointer (some ⟨bG, 0, none⟩), .agg s.cs.toArray]) rfl rfl rfl rfl rfl (by kernel_rfl) (fun w hw => q1 w (inp_box hw 0 rfl) (hw.lst 1 kc_len (by omega) rfl)) ?_) | refine WK.step rfl (Qui.call (v := .tuple #[.string (bs []), .int .i64 1]) (us := [.string (bs key), .agg s.cs.toArray]) rfl rfl rfl (by kernel_rfl) (fun w _ => q2 w)) ?_ | refine WL.step rfl (StepTo.callV (v := .tuple #[.agg Ck.St.zero.cs.toArray, .int .i64 3]) (us := [.pointer (some ⟨bG, 0, none⟩), .string (bs []), .int .i64 s.made]) rfl rfl rfl rfl rfl (by kernel_rfl) (fun w hw => q3 w (inp_box hw 0 rfl) (hw.lst 1 kc_len (by omega) rfl)) ?_) | refine WL.yld rfl lenQ ?_)
    | ((with_reducible refine WK.isN_call ?_); first | refine WL.step rfl (StepTo.callV (v := .tuple #[.string (bs []), .int .i64 1]) (us := [.pointer (some ⟨bG, 0, none⟩), .agg s.cs.toArray]) rfl rfl rfl rfl rfl (by kernel_rfl) (fun w hw => q1 w (inp_box hw 0 rfl) (hw.lst 1 kc_len (by omega) rfl)) ?_) | refine WK.step rfl (Qui.call (v := .tuple #[.string (bs []), .int .i64 1]) (us := [.string (bs key), .agg s.cs.toArray]) rfl rfl rfl (by kernel_rfl) (fun w _ => q2 w)) ?_ | refine WL.step rfl (StepTo.callV (v := .tuple #[.agg Ck.St.zero.cs.toArray, .int .i64 3]) (us := [.pointer (some ⟨bG, 0, none⟩), .string (bs []), .int .i64 s.made]) rfl rfl rfl rfl rfl (by kernel_rfl) (fun w hw => q3 w (inp_box hw 0 rfl) (hw.lst 1 kc_len (by omega) rfl)) ?_) | refine WK.yld rfl lenQ ?_)
    | ((with_reducible refine WL.isN_box ?_); first | refine WL.step rfl (StepTo.boxA rfl rfl rfl rfl (fun _ => ?_)) | refine WL.step rfl (StepTo.box1 rfl rfl rfl rfl rfl (fun _ => ?_)))
    | ((with_reducible refine WL.isN_alloc ?_); first | refine WL.step rfl (StepTo.allocA rfl rfl rfl rfl (fun _ => ?_)) | refine WL.step rfl (StepTo.alloc1 rfl rfl rfl rfl rfl (fun _ => ?_)))
    | ((with_reducible refine WL.isN_store ?_); first | refine WL.step rfl (StepTo.st1 rfl rfl rfl rfl rfl rfl ?_) | refine WL.step rfl (StepTo.stA rfl rfl rfl rfl rfl rfl rfl ?_) | refine WL.step rfl (StepTo.stR rfl rfl rfl rfl rfl rfl rfl ?_))
    | with_reducible refine WC.block ?_
    | (refine WC.quiet (i := 13) (by kernel_rfl) (by kernel_rfl) ?_)
    | (refine WC.cond rfl (fun hc => ?_) (fun hc => ?_) <;> (try first | (with_reducible replace hc := of_decide_eq_true hc) | (with_reducible replace hc := of_decide_eq_false hc) | (with_reducible replace hc := eqT hc) | (with_reducible replace hc := eqF hc) | (with_reducible replace hc := neT hc) | (with_reducible replace hc := neF hc) | (with_reducible replace hc := noT hc) | (with_reducible replace hc := noF hc)) <;> (try (exfalso; omega))))
    exact WQ.rnd (n - (i + 1)) _ _ [1, 2, 3, 4] (by repeat (first | exact Sub.nil | refine Sub.cons rfl ?_ | refine Sub.consE rfl (int_eq (by omega)) ?_)) ⟨by decide, rfl⟩ (by omega) ⟨i + 1, A2, n2, c2, i, key :: r, by omega, rfl, hA2, hn22, hn2.symm, hks2, rfl, rfl⟩
  | true =>
    rw [Ck.build_yes hrt] at q1 q2
    have hrb := Ck.read_build (k := key) hs hrt
    have hlen : (Hm.sum key (Ck.bytes s) ++ Ck.bytes s).length ≤ 1000 := by
      rw [List.length_append, Hm.sum_len, Ck.bytes_len]; omega
    generalize Hm.sum key (Ck.bytes s) ++ Ck.bytes s = cc at *
    obtain ⟨_, ⟨hm0, hm1, hl0, hl1⟩, _⟩ := Ck.right_iff.1 hrt
    have q3 := fun w hI hL => kread_q bG A2 n2 c2 i s.made (key :: r) cc w hI hL hks2 (by omega) (by omega) (by omega)
    rw [Ck.kread_own hrb hl0] at q3
    simp only at q1 q2 q3
    repeat' (first
    | refine goS ?_
    | ((with_reducible refine WL.isN_bin ?_); first | refine WL.yld rfl ((Yld.neS rfl rfl rfl).as neS_self) ?_ | refine WL.yld rfl (Yld.neqSame 4 rfl rfl rfl (by kernel_rfl) (by kernel_rfl) rfl rfl (by simp)) ?_ | refine WL.yld rfl binQ ?_)
    | ((with_reducible refine WK.isN_bin ?_); first | refine WK.yld rfl ((Yld.neS rfl rfl rfl).as neS_self) ?_ | refine WK.yld rfl (Yld.neqSame 4 rfl rfl rfl (by kernel_rfl) (by kernel_rfl) rfl rfl (by simp)) ?_ | refine WK.yld rfl binQ ?_)
    | ((with_reducible refine WL.isN_load ?_); first | refine WL.yld rfl (Yld.load rfl rfl rfl rfl (CellAt.vwE 3 rfl hkv (by omega))) ?_ | refine WL.yld rfl loadQ ?_)
    | ((with_reducible refine WK.isN_load ?_); first | refine WK.yld rfl (Yld.load rfl rfl rfl rfl (CellAt.vwE 3 rfl hkv (by omega))) ?_ | refine WK.yld rfl loadQ ?_)
    | ((with_reducible refine WL.isN_iaddr ?_); first | refine WL.yld rfl (Yld.indexS i rfl rfl rfl rfl rfl rfl hin) ?_ | refine WL.yld rfl iaddrQ ?_)
    | ((with_reducible refine WK.isN_iaddr ?_); first | refine WK.yld rfl (Yld.indexS i rfl rfl rfl rfl rfl rfl hin) ?_ | refine WK.yld rfl iaddrQ ?_)
    | ((with_reducible refine WL.isN_build ?_); first | refine WL.yld rfl buildQ ?_)
    | ((with_reducible refine WK.isN_build ?_); first | refine WK.yld rfl buildQ ?_)
    | ((with_reducible refine WL.isN_call ?_); first | refine WL.step rfl (StepTo.callV (v := .tuple #[.string (bs cc), .int .i64 0]) (us := [.pointer (some ⟨bG, 0, none⟩), .agg s.cs.toArray]) rfl rfl rfl rfl rfl (by kernel_rfl) (fun w hw => q1 w (inp_box hw 0 rfl) (hw.lst 1 kc_len (by omega) rfl)) ?_) | refine WK.step rfl (Qui.call (v := .tuple #[.string (bs cc), .int .i64 0]) (us := [.string (bs key), .agg s.cs.toArray]) rfl rfl rfl (by kernel_rfl) (fun w _ => q2 w)) ?_ | refine WL.step rfl (StepTo.callV (v := .tuple #[.agg s.cs.toArray, .int .i64 0]) (us := [.pointer (some ⟨bG, 0, none⟩), .string (bs cc), .int .i64 s.made]) rfl rfl rfl rfl rfl (by kernel_rfl) (fun w hw => q3 w (inp_box hw 0 rfl) (hw.lst 1 kc_len (by omega) rfl)) ?_) | refine WL.yld rfl lenQ ?_)
    | ((with_reducible refine WK.isN_call ?_); first | refine WL.step rfl (StepTo.callV (v := .tuple #[.string (bs cc), .int .i64 0]) (us := [.pointer (some ⟨bG, 0, none⟩), .agg s.cs.toArray]) rfl rfl rfl rfl rfl (by kernel_rfl) (fun w hw => q1 w (inp_box hw 0 rfl) (hw.lst 1 kc_len (by omega) rfl)) ?_) | refine WK.step rfl (Qui.call (v := .tuple #[.string (bs cc), .int .i64 0]) (us := [.string (bs key), .agg s.cs.toArray]) rfl rfl rfl (by kernel_rfl) (fun w _ => q2 w)) ?_ | refine WL.step rfl (StepTo.callV (v := .tuple #[.agg s.cs.toArray, .int .i64 0]) (us := [.pointer (some ⟨bG, 0, none⟩), .string (bs cc), .int .i64 s.made]) rfl rfl rfl rfl rfl (by kernel_rfl) (fun w hw => q3 w (inp_box hw 0 rfl) (hw.lst 1 kc_len (by omega) rfl)) ?_) | refine WK.yld rfl lenQ ?_)
    | ((with_reducible refine WL.isN_box ?_); first | refine WL.step rfl (StepTo.boxA rfl rfl rfl rfl (fun _ => ?_)) | refine WL.step rfl (StepTo.box1 rfl rfl rfl rfl rfl (fun _ => ?_)))
    | ((with_reducible refine WL.isN_alloc ?_); first | refine WL.step rfl (StepTo.allocA rfl rfl rfl rfl (fun _ => ?_)) | refine WL.step rfl (StepTo.alloc1 rfl rfl rfl rfl rfl (fun _ => ?_)))
    | ((with_reducible refine WL.isN_store ?_); first | refine WL.step rfl (StepTo.st1 rfl rfl rfl rfl rfl rfl ?_) | refine WL.step rfl (StepTo.stA rfl rfl rfl rfl rfl rfl rfl ?_) | refine WL.step rfl (StepTo.stR rfl rfl rfl rfl rfl rfl rfl ?_))
    | with_reducible refine WC.block ?_
    | (refine WC.quiet (i := 13) (by kernel_rfl) (by kernel_rfl) ?_)
    | (refine WC.cond rfl (fun hc => ?_) (fun hc => ?_) <;> (try first | (with_reducible replace hc := of_decide_eq_true hc) | (with_reducible replace hc := of_decide_eq_false hc) | (with_reducible replace hc := eqT hc) | (with_reducible replace hc := eqF hc) | (with_reducible replace hc := neT hc) | (with_reducible replace hc := neF hc) | (with_reducible replace hc := noT hc) | (with_reducible replace hc := noF hc)) <;> (try (exfalso; omega))))
    exact WQ.rnd (n - (i + 1)) _ _ [1, 2, 3, 4] (by repeat (first | exact Sub.nil | refine Sub.cons rfl ?_ | refine Sub.consE rfl (int_eq (by omega)) ?_)) ⟨by decide, rfl⟩ (by omega) ⟨i + 1, A2, n2, c2, i, key :: r, by omega, rfl, hA2, hn22, hn2.symm, hks2, rfl, rfl⟩
end Go.Proofs.Ytheilikelcgdmaa
