/- The cookie of a state, of the program and of the document. -/
import Derived.Test.YtheilikelcgdmaaCkA
import Derived.Test.YtheilikelcgdmaaHmC
import Derived.Test.YtheilikelcgdmaaHmR
namespace Go.Proofs.Ytheilikelcgdmaa
open Go.RowKit Go.IntWalk
set_option linter.unusedVariables false
set_option linter.unusedSectionVars false
set_option maxRecDepth 100000

/-- Numbers as values. -/
abbrev nv (x : Nat) : Value := .int .i64 (x : Int)
def nums (k : Nat) (l : List Nat) : List UInt8 := l.flatMap fun x => Ck.num x k
/-- What 'put' leaves. -/
def PutR (g : Nat) (ns : List Nat) (l : List UInt8) (v : Value) (N : List Item) : Prop := ∃ A c, v = .slice A l.length c ∧ N = [.row A l.length c 5 1 (flat bc l), .box g 3 (ns.map nv)]
set_option maxHeartbeats 4000000 in
theorem put_w (g k : Nat) (ns : List Nat) (hns : ∀ x ∈ ns, x < 9223372036854775808) (hk0 : 0 < k) (hk : k ≤ 8) (hn : ns.length ≤ 1000) (A : Option Addr) (c : Nat) (L : List UInt8) (hL : L.length ≤ 1000000) (w : World)
    (hS : Sat w (Bs [.row A L.length c 5 1 (flat bc L), .box g 3 (ns.map nv)]) [.row A L.length c 5 1 (flat bc L), .box g 3 (ns.map nv)] w) :
    Calls Try.prog 27 #[.slice A L.length c, .int .i64 k, .slice (some ⟨g, 0, none⟩) ns.length ns.length] w
      fun e w' => ∃ v N, e = .returned v ∧ PutR g ns (L ++ nums k ns) v N ∧ Mod (Bs [.row A L.length c 5 1 (flat bc L), .box g 3 (ns.map nv)]) N w w' := by
  refine enterM _ _ hS Try.func27 rfl (by simp only [Try.ntmps27, List.length_cons, List.length_nil, Nat.reduceAdd, Nat.reduceSub]; rfl) ?_
  repeat' (first
    | refine goS ?_
    | ((with_reducible refine WL.isN_bin ?_); first | refine WL.yld rfl binQ ?_)
    | ((with_reducible refine WL.isN_load ?_); first | refine WL.yld rfl loadQ ?_)
    | ((with_reducible refine WL.isN_iaddr ?_); first | refine WL.yld rfl iaddrQ ?_)
    | ((with_reducible refine WL.isN_conv ?_); first | refine WL.yld rfl convQ ?_)
    | ((with_reducible refine WL.isN_call ?_); first | refine WL.yld rfl lenQ ?_ | refine WL.step rfl (StepTo.append 0 rfl rfl rfl rfl rfl rfl rfl rfl rfl rfl rfl rfl (by first | exact CellsAt.boxAll 0 rfl | exact CellsAt.boxAll 1 rfl | exact CellsAt.boxAll 2 rfl | exact CellsAt.boxAll 3 rfl | exact CellsAt.boxAll 4 rfl) rfl rfl (by omega) (fun _ _ => ⟨_, setQ, ?_⟩)) | refine WL.step rfl (StepTo.append 1 rfl rfl rfl rfl rfl rfl rfl rfl rfl rfl rfl rfl (by first | exact CellsAt.boxAll 0 rfl | exact CellsAt.boxAll 1 rfl | exact CellsAt.boxAll 2 rfl | exact CellsAt.boxAll 3 rfl | exact CellsAt.boxAll 4 rfl) rfl rfl (by omega) (fun _ _ => ⟨_, setQ, ?_⟩)) | refine WL.step rfl (StepTo.append 2 rfl rfl rfl rfl rfl rfl rfl rfl rfl rfl rfl rfl (by first | exact CellsAt.boxAll 0 rfl | exact CellsAt.boxAll 1 rfl | exact CellsAt.boxAll 2 rfl | exact CellsAt.boxAll 3 rfl | exact CellsAt.boxAll 4 rfl) rfl rfl (by omega) (fun _ _ => ⟨_, setQ, ?_⟩)) | refine WL.step rfl (StepTo.append 3 rfl rfl rfl rfl rfl rfl rfl rfl rfl rfl rfl rfl (by first | exact CellsAt.boxAll 0 rfl | exact CellsAt.boxAll 1 rfl | exact CellsAt.boxAll 2 rfl | exact CellsAt.boxAll 3 rfl | exact CellsAt.boxAll 4 rfl) rfl rfl (by omega) (fun _ _ => ⟨_, setQ, ?_⟩)) | refine WL.step rfl (StepTo.append 4 rfl rfl rfl rfl rfl rfl rfl rfl rfl rfl rfl rfl (by first | exact CellsAt.boxAll 0 rfl | exact CellsAt.boxAll 1 rfl | exact CellsAt.boxAll 2 rfl | exact CellsAt.boxAll 3 rfl | exact CellsAt.boxAll 4 rfl) rfl rfl (by omega) (fun _ _ => ⟨_, setQ, ?_⟩)) | refine WL.step rfl (StepTo.append 5 rfl rfl rfl rfl rfl rfl rfl rfl rfl rfl rfl rfl (by first | exact CellsAt.boxAll 0 rfl | exact CellsAt.boxAll 1 rfl | exact CellsAt.boxAll 2 rfl | exact CellsAt.boxAll 3 rfl | exact CellsAt.boxAll 4 rfl) rfl rfl (by omega) (fun _ _ => ⟨_, setQ, ?_⟩)) | refine WL.step rfl (StepTo.append 6 rfl rfl rfl rfl rfl rfl rfl rfl rfl rfl rfl rfl (by first | exact CellsAt.boxAll 0 rfl | exact CellsAt.boxAll 1 rfl | exact CellsAt.boxAll 2 rfl | exact CellsAt.boxAll 3 rfl | exact CellsAt.boxAll 4 rfl) rfl rfl (by omega) (fun _ _ => ⟨_, setQ, ?_⟩)))
    | ((with_reducible refine WL.isN_bslice ?_); first | refine WL.step rfl (StepTo.buildSlice rfl rfl rfl rfl rfl rfl rfl rfl rfl rfl cellsOfQ (fun _ => ?_)))
    | with_reducible refine WC.block ?_
    | (refine WC.cond rfl (fun hc => ?_) (fun hc => ?_) <;> (try first | (with_reducible replace hc := of_decide_eq_true hc) | (with_reducible replace hc := of_decide_eq_false hc) | (with_reducible replace hc := eqT hc) | (with_reducible replace hc := eqF hc) | (with_reducible replace hc := neT hc) | (with_reducible replace hc := neF hc) | (with_reducible replace hc := noT hc) | (with_reducible replace hc := noF hc)) <;> (try (exfalso; omega))))
  refine WC.loop (fun mm τ H => ∃ (i : Nat) (A1 : Option Addr) (c1 : Nat) (L1 : List UInt8), i ≤ ns.length ∧ L1 = L ++ nums k (ns.take i) ∧ L1.length ≤ L.length + 8 * i ∧ mm = ns.length - i ∧ τ = [(0, .slice A1 L1.length c1), (1, .int .i64 k), (10, .slice (some ⟨g, 0, none⟩) ns.length ns.length), (11, .int .i64 ns.length), (12, .int .i64 (i : Nat))] ∧
    H = [.row A1 L1.length c1 5 1 (flat bc L1), .box g 3 (ns.map nv)]) ns.length _ _ [0, 1] ?_ ?_ ⟨0, A, c, L, by omega, by simp [nums], by omega, rfl, rfl, rfl⟩ ?_
  · exact (by repeat (first | exact Sub.nil | refine Sub.cons rfl ?_ | refine Sub.consE rfl (int_eq (by omega)) ?_))
  · exact ⟨by decide, rfl⟩
  rintro mm τ H ⟨i, A1, c1, L1, hi, hL1, hl1, rfl, rfl, rfl⟩
  by_cases hin : i < ns.length
  · obtain ⟨x, hx⟩ : ∃ x, ns[i]? = some x := ⟨_, List.getElem?_eq_getElem hin⟩
    have hxm := hns x (List.mem_of_getElem? hx)
    have hxv : (ns.map nv)[i]? = some (nv x) := by rw [List.getElem?_map, hx]; rfl
    have hnx : L ++ nums k (ns.take (i + 1)) = L1 ++ Ck.num x k := by
      rw [hL1, List.take_add_one, hx, nums, nums, List.flatMap_append, List.append_assoc]
      simp
    repeat' (first
    | refine goS ?_
    | ((with_reducible refine WL.isN_bin ?_); first | refine WL.yld rfl binQ ?_)
    | ((with_reducible refine WL.isN_load ?_); first | refine WL.yld rfl (Yld.load rfl rfl rfl rfl (CellAt.boxE 1 rfl hxv (by omega))) ?_ | refine WL.yld rfl loadQ ?_)
    | ((with_reducible refine WL.isN_iaddr ?_); first | refine WL.yld rfl (Yld.indexS i rfl rfl rfl rfl rfl rfl hin) ?_ | refine WL.yld rfl iaddrQ ?_)
    | ((with_reducible refine WL.isN_conv ?_); first | refine WL.yld rfl convQ ?_)
    | ((with_reducible refine WL.isN_call ?_); first | refine WL.yld rfl lenQ ?_ | refine WL.step rfl (StepTo.append 0 rfl rfl rfl rfl rfl rfl rfl rfl rfl rfl rfl rfl (by first | exact CellsAt.boxAll 0 rfl | exact CellsAt.boxAll 1 rfl | exact CellsAt.boxAll 2 rfl | exact CellsAt.boxAll 3 rfl | exact CellsAt.boxAll 4 rfl) rfl rfl (by omega) (fun _ _ => ⟨_, setQ, ?_⟩)) | refine WL.step rfl (StepTo.append 1 rfl rfl rfl rfl rfl rfl rfl rfl rfl rfl rfl rfl (by first | exact CellsAt.boxAll 0 rfl | exact CellsAt.boxAll 1 rfl | exact CellsAt.boxAll 2 rfl | exact CellsAt.boxAll 3 rfl | exact CellsAt.boxAll 4 rfl) rfl rfl (by omega) (fun _ _ => ⟨_, setQ, ?_⟩)) | refine WL.step rfl (StepTo.append 2 rfl rfl rfl rfl rfl rfl rfl rfl rfl rfl rfl rfl (by first | exact CellsAt.boxAll 0 rfl | exact CellsAt.boxAll 1 rfl | exact CellsAt.boxAll 2 rfl | exact CellsAt.boxAll 3 rfl | exact CellsAt.boxAll 4 rfl) rfl rfl (by omega) (fun _ _ => ⟨_, setQ, ?_⟩)) | refine WL.step rfl (StepTo.append 3 rfl rfl rfl rfl rfl rfl rfl rfl rfl rfl rfl rfl (by first | exact CellsAt.boxAll 0 rfl | exact CellsAt.boxAll 1 rfl | exact CellsAt.boxAll 2 rfl | exact CellsAt.boxAll 3 rfl | exact CellsAt.boxAll 4 rfl) rfl rfl (by omega) (fun _ _ => ⟨_, setQ, ?_⟩)) | refine WL.step rfl (StepTo.append 4 rfl rfl rfl rfl rfl rfl rfl rfl rfl rfl rfl rfl (by first | exact CellsAt.boxAll 0 rfl | exact CellsAt.boxAll 1 rfl | exact CellsAt.boxAll 2 rfl | exact CellsAt.boxAll 3 rfl | exact CellsAt.boxAll 4 rfl) rfl rfl (by omega) (fun _ _ => ⟨_, setQ, ?_⟩)) | refine WL.step rfl (StepTo.append 5 rfl rfl rfl rfl rfl rfl rfl rfl rfl rfl rfl rfl (by first | exact CellsAt.boxAll 0 rfl | exact CellsAt.boxAll 1 rfl | exact CellsAt.boxAll 2 rfl | exact CellsAt.boxAll 3 rfl | exact CellsAt.boxAll 4 rfl) rfl rfl (by omega) (fun _ _ => ⟨_, setQ, ?_⟩)) | refine WL.step rfl (StepTo.append 6 rfl rfl rfl rfl rfl rfl rfl rfl rfl rfl rfl rfl (by first | exact CellsAt.boxAll 0 rfl | exact CellsAt.boxAll 1 rfl | exact CellsAt.boxAll 2 rfl | exact CellsAt.boxAll 3 rfl | exact CellsAt.boxAll 4 rfl) rfl rfl (by omega) (fun _ _ => ⟨_, setQ, ?_⟩)))
    | ((with_reducible refine WL.isN_bslice ?_); first | refine WL.step rfl (StepTo.buildSlice rfl rfl rfl rfl rfl rfl rfl rfl rfl rfl cellsOfQ (fun _ => ?_)))
    | with_reducible refine WC.block ?_
    | (refine WC.cond rfl (fun hc => ?_) (fun hc => ?_) <;> (try first | (with_reducible replace hc := of_decide_eq_true hc) | (with_reducible replace hc := of_decide_eq_false hc) | (with_reducible replace hc := eqT hc) | (with_reducible replace hc := eqF hc) | (with_reducible replace hc := neT hc) | (with_reducible replace hc := neF hc) | (with_reducible replace hc := noT hc) | (with_reducible replace hc := noF hc)) <;> (try (exfalso; omega))))
    refine WC.loop (fun mm τ H => ∃ (j : Nat) (A2 : Option Addr) (c2 : Nat) (L2 : List UInt8), L2 ++ Ck.num x j = L1 ++ Ck.num x k ∧ L2.length + j = L1.length + k ∧ j ≤ k ∧ mm = j ∧ τ = [(0, .slice A2 L2.length c2), (1, .int .i64 k), (8, .int .i64 x), (9, .int .i64 ((j : Int) - 1)), (10, .slice (some ⟨g, 0, none⟩) ns.length ns.length), (11, .int .i64 ns.length), (12, .int .i64 (i : Nat))] ∧
      H = [.row A2 L2.length c2 5 1 (flat bc L2), .box g 3 (ns.map nv)]) k _ _ [0, 1] ?_ ?_ ⟨k, A1, c1, L1, rfl, rfl, by omega, rfl, rfl, rfl⟩ ?_
    · exact (by repeat (first | exact Sub.nil | refine Sub.cons rfl ?_ | refine Sub.consE rfl (int_eq (by omega)) ?_))
    · exact ⟨by decide, rfl⟩
    rintro mm τ H ⟨j, A2, c2, L2, hL2, hl2, hjk, rfl, rfl, rfl⟩
    cases mm with
    | succ j =>
      have hny : flat bc L2 ++ [bv (UInt8.ofNat (x / 256 ^ j))] = flat bc (L2 ++ [UInt8.ofNat (x / 256 ^ j)]) := by rw [flat_append]; rfl
      have hL3 : (L2 ++ [UInt8.ofNat (x / 256 ^ j)]) ++ Ck.num x j = L1 ++ Ck.num x k := by rw [← hL2, Ck.num, List.append_assoc]; rfl
      have hl3 : (L2 ++ [UInt8.ofNat (x / 256 ^ j)]).length = L2.length + 1 := by simp
      clear hL2
      generalize L2 ++ [UInt8.ofNat (x / 256 ^ j)] = L3 at *
      repeat' (first
    | refine goS ?_
    | ((with_reducible refine WL.isN_bin ?_); first | refine WL.yld rfl (Yld.shrE (8 * j) rfl rfl rfl (by omega) (by show 8 * j ≤ 64; omega) (shr256 x j)) ?_ | refine WL.yld rfl binQ ?_)
    | ((with_reducible refine WL.isN_load ?_); first | refine WL.yld rfl loadQ ?_)
    | ((with_reducible refine WL.isN_iaddr ?_); first | refine WL.yld rfl iaddrQ ?_)
    | ((with_reducible refine WL.isN_conv ?_); first | refine WL.yld rfl (Yld.convInt rfl rfl rfl rfl bOfN) ?_ | refine WL.yld rfl convQ ?_)
    | ((with_reducible refine WL.isN_call ?_); first | refine WL.step rfl (StepTo.appendTo 1 (flat bc L3) rfl rfl rfl rfl rfl rfl rfl rfl rfl rfl rfl rfl (CellsAt.boxAll 0 rfl) rfl rfl (by omega) hny (fun _ _ => ⟨_, setQ, ?_⟩)) | refine WL.yld rfl lenQ ?_ | refine WL.step rfl (StepTo.append 0 rfl rfl rfl rfl rfl rfl rfl rfl rfl rfl rfl rfl (by first | exact CellsAt.boxAll 0 rfl | exact CellsAt.boxAll 1 rfl | exact CellsAt.boxAll 2 rfl | exact CellsAt.boxAll 3 rfl | exact CellsAt.boxAll 4 rfl) rfl rfl (by omega) (fun _ _ => ⟨_, setQ, ?_⟩)) | refine WL.step rfl (StepTo.append 1 rfl rfl rfl rfl rfl rfl rfl rfl rfl rfl rfl rfl (by first | exact CellsAt.boxAll 0 rfl | exact CellsAt.boxAll 1 rfl | exact CellsAt.boxAll 2 rfl | exact CellsAt.boxAll 3 rfl | exact CellsAt.boxAll 4 rfl) rfl rfl (by omega) (fun _ _ => ⟨_, setQ, ?_⟩)) | refine WL.step rfl (StepTo.append 2 rfl rfl rfl rfl rfl rfl rfl rfl rfl rfl rfl rfl (by first | exact CellsAt.boxAll 0 rfl | exact CellsAt.boxAll 1 rfl | exact CellsAt.boxAll 2 rfl | exact CellsAt.boxAll 3 rfl | exact CellsAt.boxAll 4 rfl) rfl rfl (by omega) (fun _ _ => ⟨_, setQ, ?_⟩)) | refine WL.step rfl (StepTo.append 3 rfl rfl rfl rfl rfl rfl rfl rfl rfl rfl rfl rfl (by first | exact CellsAt.boxAll 0 rfl | exact CellsAt.boxAll 1 rfl | exact CellsAt.boxAll 2 rfl | exact CellsAt.boxAll 3 rfl | exact CellsAt.boxAll 4 rfl) rfl rfl (by omega) (fun _ _ => ⟨_, setQ, ?_⟩)) | refine WL.step rfl (StepTo.append 4 rfl rfl rfl rfl rfl rfl rfl rfl rfl rfl rfl rfl (by first | exact CellsAt.boxAll 0 rfl | exact CellsAt.boxAll 1 rfl | exact CellsAt.boxAll 2 rfl | exact CellsAt.boxAll 3 rfl | exact CellsAt.boxAll 4 rfl) rfl rfl (by omega) (fun _ _ => ⟨_, setQ, ?_⟩)) | refine WL.step rfl (StepTo.append 5 rfl rfl rfl rfl rfl rfl rfl rfl rfl rfl rfl rfl (by first | exact CellsAt.boxAll 0 rfl | exact CellsAt.boxAll 1 rfl | exact CellsAt.boxAll 2 rfl | exact CellsAt.boxAll 3 rfl | exact CellsAt.boxAll 4 rfl) rfl rfl (by omega) (fun _ _ => ⟨_, setQ, ?_⟩)) | refine WL.step rfl (StepTo.append 6 rfl rfl rfl rfl rfl rfl rfl rfl rfl rfl rfl rfl (by first | exact CellsAt.boxAll 0 rfl | exact CellsAt.boxAll 1 rfl | exact CellsAt.boxAll 2 rfl | exact CellsAt.boxAll 3 rfl | exact CellsAt.boxAll 4 rfl) rfl rfl (by omega) (fun _ _ => ⟨_, setQ, ?_⟩)))
    | ((with_reducible refine WL.isN_bslice ?_); first | refine WL.step rfl (StepTo.buildSlice (cs := [bv (UInt8.ofNat (x / 256 ^ j))]) rfl rfl rfl rfl rfl rfl rfl rfl rfl rfl cellsOfQ (fun _ => ?_)) | refine WL.step rfl (StepTo.buildSlice rfl rfl rfl rfl rfl rfl rfl rfl rfl rfl cellsOfQ (fun _ => ?_)))
    | with_reducible refine WC.block ?_
    | (refine WC.cond rfl (fun hc => ?_) (fun hc => ?_) <;> (try first | (with_reducible replace hc := of_decide_eq_true hc) | (with_reducible replace hc := of_decide_eq_false hc) | (with_reducible replace hc := eqT hc) | (with_reducible replace hc := eqF hc) | (with_reducible replace hc := neT hc) | (with_reducible replace hc := neF hc) | (with_reducible replace hc := noT hc) | (with_reducible replace hc := noF hc)) <;> (try (exfalso; omega))))
      rw [← hl3]
      exact WQ.rnd j _ _ [1, 2] (by repeat (first | exact Sub.nil | refine Sub.cons rfl ?_ | refine Sub.consE rfl (int_eq (by omega)) ?_)) ⟨by decide, rfl⟩ (by omega) ⟨j, _, _, L3, hL3, by omega, by omega, rfl, rfl, rfl⟩
    | zero =>
      rw [Ck.num, List.append_nil] at hL2
      rw [← hL2] at hnx
      repeat' (first
    | refine goS ?_
    | ((with_reducible refine WL.isN_bin ?_); first | refine WL.yld rfl binQ ?_)
    | ((with_reducible refine WL.isN_load ?_); first | refine WL.yld rfl loadQ ?_)
    | ((with_reducible refine WL.isN_iaddr ?_); first | refine WL.yld rfl iaddrQ ?_)
    | ((with_reducible refine WL.isN_conv ?_); first | refine WL.yld rfl convQ ?_)
    | ((with_reducible refine WL.isN_call ?_); first | refine WL.yld rfl lenQ ?_ | refine WL.step rfl (StepTo.append 0 rfl rfl rfl rfl rfl rfl rfl rfl rfl rfl rfl rfl (by first | exact CellsAt.boxAll 0 rfl | exact CellsAt.boxAll 1 rfl | exact CellsAt.boxAll 2 rfl | exact CellsAt.boxAll 3 rfl | exact CellsAt.boxAll 4 rfl) rfl rfl (by omega) (fun _ _ => ⟨_, setQ, ?_⟩)) | refine WL.step rfl (StepTo.append 1 rfl rfl rfl rfl rfl rfl rfl rfl rfl rfl rfl rfl (by first | exact CellsAt.boxAll 0 rfl | exact CellsAt.boxAll 1 rfl | exact CellsAt.boxAll 2 rfl | exact CellsAt.boxAll 3 rfl | exact CellsAt.boxAll 4 rfl) rfl rfl (by omega) (fun _ _ => ⟨_, setQ, ?_⟩)) | refine WL.step rfl (StepTo.append 2 rfl rfl rfl rfl rfl rfl rfl rfl rfl rfl rfl rfl (by first | exact CellsAt.boxAll 0 rfl | exact CellsAt.boxAll 1 rfl | exact CellsAt.boxAll 2 rfl | exact CellsAt.boxAll 3 rfl | exact CellsAt.boxAll 4 rfl) rfl rfl (by omega) (fun _ _ => ⟨_, setQ, ?_⟩)) | refine WL.step rfl (StepTo.append 3 rfl rfl rfl rfl rfl rfl rfl rfl rfl rfl rfl rfl (by first | exact CellsAt.boxAll 0 rfl | exact CellsAt.boxAll 1 rfl | exact CellsAt.boxAll 2 rfl | exact CellsAt.boxAll 3 rfl | exact CellsAt.boxAll 4 rfl) rfl rfl (by omega) (fun _ _ => ⟨_, setQ, ?_⟩)) | refine WL.step rfl (StepTo.append 4 rfl rfl rfl rfl rfl rfl rfl rfl rfl rfl rfl rfl (by first | exact CellsAt.boxAll 0 rfl | exact CellsAt.boxAll 1 rfl | exact CellsAt.boxAll 2 rfl | exact CellsAt.boxAll 3 rfl | exact CellsAt.boxAll 4 rfl) rfl rfl (by omega) (fun _ _ => ⟨_, setQ, ?_⟩)) | refine WL.step rfl (StepTo.append 5 rfl rfl rfl rfl rfl rfl rfl rfl rfl rfl rfl rfl (by first | exact CellsAt.boxAll 0 rfl | exact CellsAt.boxAll 1 rfl | exact CellsAt.boxAll 2 rfl | exact CellsAt.boxAll 3 rfl | exact CellsAt.boxAll 4 rfl) rfl rfl (by omega) (fun _ _ => ⟨_, setQ, ?_⟩)) | refine WL.step rfl (StepTo.append 6 rfl rfl rfl rfl rfl rfl rfl rfl rfl rfl rfl rfl (by first | exact CellsAt.boxAll 0 rfl | exact CellsAt.boxAll 1 rfl | exact CellsAt.boxAll 2 rfl | exact CellsAt.boxAll 3 rfl | exact CellsAt.boxAll 4 rfl) rfl rfl (by omega) (fun _ _ => ⟨_, setQ, ?_⟩)))
    | ((with_reducible refine WL.isN_bslice ?_); first | refine WL.step rfl (StepTo.buildSlice rfl rfl rfl rfl rfl rfl rfl rfl rfl rfl cellsOfQ (fun _ => ?_)))
    | with_reducible refine WC.block ?_
    | (refine WC.cond rfl (fun hc => ?_) (fun hc => ?_) <;> (try first | (with_reducible replace hc := of_decide_eq_true hc) | (with_reducible replace hc := of_decide_eq_false hc) | (with_reducible replace hc := eqT hc) | (with_reducible replace hc := eqF hc) | (with_reducible replace hc := neT hc) | (with_reducible replace hc := neF hc) | (with_reducible replace hc := noT hc) | (with_reducible replace hc := noF hc)) <;> (try (exfalso; omega))))
      exact WQ.rnd (ns.length - (i + 1)) _ _ [0, 1] (by repeat (first | exact Sub.nil | refine Sub.cons rfl ?_ | refine Sub.consE rfl (int_eq (by omega)) ?_)) ⟨by decide, rfl⟩ (by omega) ⟨i + 1, _, _, L2, by omega, hnx.symm, by omega, rfl, rfl, rfl⟩
  · obtain rfl : i = ns.length := by omega
    rw [List.take_length] at hL1
    rw [← hL1]
    repeat' (first
    | refine goS ?_
    | ((with_reducible refine WL.isN_bin ?_); first | refine WL.yld rfl binQ ?_)
    | ((with_reducible refine WL.isN_load ?_); first | refine WL.yld rfl loadQ ?_)
    | ((with_reducible refine WL.isN_iaddr ?_); first | refine WL.yld rfl iaddrQ ?_)
    | ((with_reducible refine WL.isN_conv ?_); first | refine WL.yld rfl convQ ?_)
    | ((with_reducible refine WL.isN_call ?_); first | refine WL.yld rfl lenQ ?_ | refine WL.step rfl (StepTo.append 0 rfl rfl rfl rfl rfl rfl rfl rfl rfl rfl rfl rfl (by first | exact CellsAt.boxAll 0 rfl | exact CellsAt.boxAll 1 rfl | exact CellsAt.boxAll 2 rfl | exact CellsAt.boxAll 3 rfl | exact CellsAt.boxAll 4 rfl) rfl rfl (by omega) (fun _ _ => ⟨_, setQ, ?_⟩)) | refine WL.step rfl (StepTo.append 1 rfl rfl rfl rfl rfl rfl rfl rfl rfl rfl rfl rfl (by first | exact CellsAt.boxAll 0 rfl | exact CellsAt.boxAll 1 rfl | exact CellsAt.boxAll 2 rfl | exact CellsAt.boxAll 3 rfl | exact CellsAt.boxAll 4 rfl) rfl rfl (by omega) (fun _ _ => ⟨_, setQ, ?_⟩)) | refine WL.step rfl (StepTo.append 2 rfl rfl rfl rfl rfl rfl rfl rfl rfl rfl rfl rfl (by first | exact CellsAt.boxAll 0 rfl | exact CellsAt.boxAll 1 rfl | exact CellsAt.boxAll 2 rfl | exact CellsAt.boxAll 3 rfl | exact CellsAt.boxAll 4 rfl) rfl rfl (by omega) (fun _ _ => ⟨_, setQ, ?_⟩)) | refine WL.step rfl (StepTo.append 3 rfl rfl rfl rfl rfl rfl rfl rfl rfl rfl rfl rfl (by first | exact CellsAt.boxAll 0 rfl | exact CellsAt.boxAll 1 rfl | exact CellsAt.boxAll 2 rfl | exact CellsAt.boxAll 3 rfl | exact CellsAt.boxAll 4 rfl) rfl rfl (by omega) (fun _ _ => ⟨_, setQ, ?_⟩)) | refine WL.step rfl (StepTo.append 4 rfl rfl rfl rfl rfl rfl rfl rfl rfl rfl rfl rfl (by first | exact CellsAt.boxAll 0 rfl | exact CellsAt.boxAll 1 rfl | exact CellsAt.boxAll 2 rfl | exact CellsAt.boxAll 3 rfl | exact CellsAt.boxAll 4 rfl) rfl rfl (by omega) (fun _ _ => ⟨_, setQ, ?_⟩)) | refine WL.step rfl (StepTo.append 5 rfl rfl rfl rfl rfl rfl rfl rfl rfl rfl rfl rfl (by first | exact CellsAt.boxAll 0 rfl | exact CellsAt.boxAll 1 rfl | exact CellsAt.boxAll 2 rfl | exact CellsAt.boxAll 3 rfl | exact CellsAt.boxAll 4 rfl) rfl rfl (by omega) (fun _ _ => ⟨_, setQ, ?_⟩)) | refine WL.step rfl (StepTo.append 6 rfl rfl rfl rfl rfl rfl rfl rfl rfl rfl rfl rfl (by first | exact CellsAt.boxAll 0 rfl | exact CellsAt.boxAll 1 rfl | exact CellsAt.boxAll 2 rfl | exact CellsAt.boxAll 3 rfl | exact CellsAt.boxAll 4 rfl) rfl rfl (by omega) (fun _ _ => ⟨_, setQ, ?_⟩)))
    | ((with_reducible refine WL.isN_bslice ?_); first | refine WL.step rfl (StepTo.buildSlice rfl rfl rfl rfl rfl rfl rfl rfl rfl rfl cellsOfQ (fun _ => ?_)))
    | with_reducible refine WC.block ?_
    | (refine WC.cond rfl (fun hc => ?_) (fun hc => ?_) <;> (try first | (with_reducible replace hc := of_decide_eq_true hc) | (with_reducible replace hc := of_decide_eq_false hc) | (with_reducible replace hc := eqT hc) | (with_reducible replace hc := eqF hc) | (with_reducible replace hc := neT hc) | (with_reducible replace hc := neF hc) | (with_reducible replace hc := noT hc) | (with_reducible replace hc := noF hc)) <;> (try (exfalso; omega))))
    exact WQ.body (Reads.tmp rfl rfl) fun w' hw' => ⟨_, _, rfl, ⟨_, _, rfl, rfl⟩, hw'.toMod (by simp [Item.mine])⟩
theorem put_e (g k : Nat) (ns : List Nat) (hns : ∀ x ∈ ns, x < 9223372036854775808) (hk0 : 0 < k) (hk : k ≤ 8) (hn : ns.length ≤ 1000) (A : Option Addr) (c : Nat) (L L' : List UInt8) (hL : L.length ≤ 1000000) (hL' : L ++ nums k ns = L') (w : World)
    (hS : Sat w (Bs [.row A L.length c 5 1 (flat bc L), .box g 3 (ns.map nv)]) [.row A L.length c 5 1 (flat bc L), .box g 3 (ns.map nv)] w) :
    Calls Try.prog 27 #[.slice A L.length c, .int .i64 k, .slice (some ⟨g, 0, none⟩) ns.length ns.length] w
      fun e w' => ∃ v N, e = .returned v ∧ PutR g ns L' v N ∧ Mod (Bs [.row A L.length c 5 1 (flat bc L), .box g 3 (ns.map nv)]) N w w' := hL' ▸ put_w g k ns hns hk0 hk hn A c L hL w hS
theorem nums_len (k : Nat) (l : List Nat) : (nums k l).length = l.length * k := by
  induction l with
  | nil => simp [nums]
  | cons x l ih =>
    rw [nums, List.flatMap_cons, List.length_append, Ck.num_len]
    rw [nums] at ih
    rw [ih, List.length_cons, Nat.succ_mul]
    omega
set_option maxHeartbeats 4000000 in
theorem build_q (key : List UInt8) (hkey : key.length ≤ 1000000) (s : Ck.St) (hs : s.Ok) (hp : s.peer.length ≤ 1000000) (w : World) : Calls Try.prog 11 #[.string (bs key), .agg s.cs.toArray] w
    fun e w' => e = .returned (.tuple #[.string (bs (Ck.build key s).1), .int .i64 (Ck.build key s).2]) ∧ Below w.heap.size w w' := by
  have hrq := fun w => ckright_q s hs hp w
  cases hr : Ck.right s with
  | false =>
    have hb : Ck.build key s = ([], 1) := by rw [Ck.build, hr]; rfl
    rw [hb]
    rw [hr] at hrq
    refine enterW (fun _ => False) _ Try.func11 rfl (by simp only [Try.ntmps11, List.length_cons, List.length_nil, Nat.reduceAdd, Nat.reduceSub]; rfl) ?_
    repeat' (first
    | refine goS ?_
    | ((with_reducible refine WL.isN_bin ?_); first | refine WL.yld rfl binQ ?_)
    | ((with_reducible refine WL.isN_load ?_); first | refine WL.yld rfl loadQ ?_)
    | ((with_reducible refine WL.isN_conv ?_); first | refine WL.yld rfl convQ ?_)
    | ((with_reducible refine WL.isN_call ?_); first | refine WL.step rfl (StepTo.callV (v := .bool false) (us := [.agg s.cs.toArray]) rfl rfl rfl rfl rfl (by kernel_rfl) (fun w hw => hrq w) ?_) | refine WL.yld rfl lenQ ?_)
    | ((with_reducible refine WL.isN_box ?_); first | refine WL.step rfl (StepTo.boxA rfl rfl rfl rfl (fun _ => ?_)) | refine WL.step rfl (StepTo.box1 rfl rfl rfl rfl rfl (fun _ => ?_)))
    | ((with_reducible refine WL.isN_bslice ?_); first | refine WL.step rfl (StepTo.buildSlice rfl rfl rfl rfl rfl rfl rfl rfl rfl rfl cellsOfQ (fun _ => ?_)))
    | with_reducible refine WC.block ?_
    | (refine WC.cond rfl (fun hc => ?_) (fun hc => ?_) <;> (try first | (with_reducible replace hc := of_decide_eq_true hc) | (with_reducible replace hc := of_decide_eq_false hc) | (with_reducible replace hc := eqT hc) | (with_reducible replace hc := eqF hc) | (with_reducible replace hc := neT hc) | (with_reducible replace hc := neF hc) | (with_reducible replace hc := noT hc) | (with_reducible replace hc := noF hc)) <;> (try (exfalso; omega))))
    exact WQ.body (Reads.tmp2 rfl rfl rfl) fun w' hw' => ⟨rfl, hw'.ext.below⟩
  | true =>
    have hb : Ck.build key s = (Hm.sum key (Ck.bytes s) ++ Ck.bytes s, 0) := by rw [Ck.build, if_pos hr]
    rw [hb]
    rw [hr] at hrq
    have hbl := Ck.bytes_len s
    obtain ⟨hpl, ⟨hm0, hm1, hl0, hl1⟩, _⟩ := Ck.right_iff.1 hr
    obtain ⟨h1, h2, h3, h4, h5, h6, h7, h8, h9, h10, h11⟩ := hs
    obtain ⟨ot, pt, os, ps, to_, tp, wi, ou, ins, op, pp, peer, made, life⟩ := s
    simp only at h1 h2 h3 h4 h5 h6 h7 h8 h9 h10 h11 hm0 hm1 hl0 hl1 hpl hp hbl
    obtain ⟨m, rfl⟩ := Int.eq_ofNat_of_zero_le hm0
    obtain ⟨l, rfl⟩ := Int.eq_ofNat_of_zero_le hl0
    have hbx : (((([] ++ nums 4 [ot, pt, os, ps, to_, tp, wi]) ++ nums 2 [ou, ins, op, pp]) ++ nums 8 [m, l]) ++ nums 1 [peer.length]) ++ peer = Ck.bytes ⟨ot, pt, os, ps, to_, tp, wi, ou, ins, op, pp, peer, m, l⟩ := by
      simp [nums, Ck.bytes, Ck.head]
    obtain ⟨L1, hL1⟩ : ∃ L, [] ++ nums 4 [ot, pt, os, ps, to_, tp, wi] = L := ⟨_, rfl⟩
    obtain ⟨L2, hL2⟩ : ∃ L, L1 ++ nums 2 [ou, ins, op, pp] = L := ⟨_, rfl⟩
    obtain ⟨L3, hL3⟩ : ∃ L, L2 ++ nums 8 [m, l] = L := ⟨_, rfl⟩
    obtain ⟨L4, hL4⟩ : ∃ L, L3 ++ nums 1 [peer.length] = L := ⟨_, rfl⟩
    rw [hL1, hL2, hL3, hL4] at hbx
    have l1 : L1.length = 28 := by rw [← hL1, List.nil_append, nums_len]; rfl
    have l2 : L2.length = 36 := by rw [← hL2, List.length_append, nums_len, l1]; rfl
    have l3 : L3.length = 52 := by rw [← hL3, List.length_append, nums_len, l2]; rfl
    have l4 : L4.length = 53 := by rw [← hL4, List.length_append, nums_len, l3]; rfl
    have n1 : ∀ x ∈ [ot, pt, os, ps, to_, tp, wi], x < 9223372036854775808 := by intro x hx; simp at hx; omega
    have n2 : ∀ x ∈ [ou, ins, op, pp], x < 9223372036854775808 := by intro x hx; simp at hx; omega
    have n3 : ∀ x ∈ [m, l], x < 9223372036854775808 := by intro x hx; simp at hx; omega
    have n4 : ∀ x ∈ [peer.length], x < 9223372036854775808 := by intro x hx; simp at hx; omega
    have p1 := fun g w hS => put_e g 4 _ n1 (by omega) (by omega) (by simp) none 0 [] L1 (by simp) hL1 w hS
    have p2 := fun g A c w hS => put_e g 2 _ n2 (by omega) (by omega) (by simp) A c L1 L2 (by omega) hL2 w hS
    have p3 := fun g A c w hS => put_e g 8 _ n3 (by omega) (by omega) (by simp) A c L2 L3 (by omega) hL3 w hS
    have p4 := fun g A c w hS => put_e g 1 _ n4 (by omega) (by omega) (by simp) A c L3 L4 (by omega) hL4 w hS
    have hsum := fun w => hm_q key (Ck.bytes ⟨ot, pt, os, ps, to_, tp, wi, ou, ins, op, pp, peer, m, l⟩) (by omega) (by omega) w
    have hsl := Hm.sum_len key (Ck.bytes ⟨ot, pt, os, ps, to_, tp, wi, ou, ins, op, pp, peer, m, l⟩)
    generalize Hm.sum key (Ck.bytes ⟨ot, pt, os, ps, to_, tp, wi, ou, ins, op, pp, peer, m, l⟩) = Z at *
    rw [← hbx] at hbl hsum ⊢
    clear hbx hL1 hL2 hL3 hL4 hb hr n1 n2 n3 n4
    simp only [Ck.St.cs] at hrq ⊢
    refine enterW (fun _ => False) _ Try.func11 rfl (by simp only [Try.ntmps11, List.length_cons, List.length_nil, Nat.reduceAdd, Nat.reduceSub]; rfl) ?_
    refine WC.nilRow 5 1 ?_
    repeat' (first
    | refine goS ?_
    | ((with_reducible refine WL.isN_bin ?_); first | refine WL.yld rfl binQ ?_)
    | ((with_reducible refine WL.isN_load ?_); first | refine WL.yld rfl loadQ ?_)
    | ((with_reducible refine WL.isN_conv ?_); first | refine WL.yld rfl convQ ?_)
    | ((with_reducible refine WL.isN_call ?_); first | refine WL.step rfl (StepTo.callV (v := .bool true) (us := [.agg (Ck.St.cs ⟨ot, pt, os, ps, to_, tp, wi, ou, ins, op, pp, peer, m, l⟩).toArray]) rfl rfl rfl rfl rfl (by kernel_rfl) (fun w hw => hrq w) ?_) | refine WL.yld rfl lenQ ?_)
    | ((with_reducible refine WL.isN_box ?_); first | refine WL.step rfl (StepTo.boxA rfl rfl rfl rfl (fun _ => ?_)) | refine WL.step rfl (StepTo.box1 rfl rfl rfl rfl rfl (fun _ => ?_)))
    | ((with_reducible refine WL.isN_bslice ?_); first | refine WL.step rfl (StepTo.buildSlice rfl rfl rfl rfl rfl rfl rfl rfl rfl rfl cellsOfQ (fun _ => ?_)))
    | with_reducible refine WC.block ?_
    | (refine WC.cond rfl (fun hc => ?_) (fun hc => ?_) <;> (try first | (with_reducible replace hc := of_decide_eq_true hc) | (with_reducible replace hc := of_decide_eq_false hc) | (with_reducible replace hc := eqT hc) | (with_reducible replace hc := eqF hc) | (with_reducible replace hc := neT hc) | (with_reducible replace hc := neF hc) | (with_reducible replace hc := noT hc) | (with_reducible replace hc := noF hc)) <;> (try (exfalso; omega))))
    refine WL.step rfl (StepTo.callP (us := [.slice none 0 0, .int .i64 4, .slice (some ⟨_, 0, none⟩) 7 7]) (HI := [.row none ([] : List UInt8).length 0 5 1 (flat bc ([] : List UInt8)), .box _ 3 ([ot, pt, os, ps, to_, tp, wi].map nv)]) [2, 0] [1] ⟨by decide, rfl⟩ rfl ⟨by decide, rfl⟩ rfl rfl rfl rfl rfl rfl (by kernel_rfl) (fun w hw hS => p1 _ w hS) ?_)
    rintro v NN ⟨A1, c1, rfl, rfl⟩
    repeat' (first
    | refine goS ?_
    | ((with_reducible refine WL.isN_bin ?_); first | refine WL.yld rfl binQ ?_)
    | ((with_reducible refine WL.isN_load ?_); first | refine WL.yld rfl loadQ ?_)
    | ((with_reducible refine WL.isN_conv ?_); first | refine WL.yld rfl convQ ?_)
    | ((with_reducible refine WL.isN_call ?_); first | refine WL.yld rfl lenQ ?_)
    | ((with_reducible refine WL.isN_box ?_); first | refine WL.step rfl (StepTo.boxA rfl rfl rfl rfl (fun _ => ?_)) | refine WL.step rfl (StepTo.box1 rfl rfl rfl rfl rfl (fun _ => ?_)))
    | ((with_reducible refine WL.isN_bslice ?_); first | refine WL.step rfl (StepTo.buildSlice rfl rfl rfl rfl rfl rfl rfl rfl rfl rfl cellsOfQ (fun _ => ?_)))
    | with_reducible refine WC.block ?_
    | (refine WC.cond rfl (fun hc => ?_) (fun hc => ?_) <;> (try first | (with_reducible replace hc := of_decide_eq_true hc) | (with_reducible replace hc := of_decide_eq_false hc) | (with_reducible replace hc := eqT hc) | (with_reducible replace hc := eqF hc) | (with_reducible replace hc := neT hc) | (with_reducible replace hc := neF hc) | (with_reducible replace hc := noT hc) | (with_reducible replace hc := noF hc)) <;> (try (exfalso; omega))))
    refine WL.step rfl (StepTo.callP (us := [.slice A1 L1.length c1, .int .i64 2, .slice (some ⟨_, 0, none⟩) 4 4]) (HI := [.row A1 L1.length c1 5 1 (flat bc L1), .box _ 3 ([ou, ins, op, pp].map nv)]) [1, 0] [3] ⟨by decide, rfl⟩ rfl ⟨by decide, rfl⟩ rfl rfl rfl rfl rfl rfl (by kernel_rfl) (fun w hw hS => p2 _ A1 c1 w hS) ?_)
    rintro v NN ⟨A2, c2, rfl, rfl⟩
    repeat' (first
    | refine goS ?_
    | ((with_reducible refine WL.isN_bin ?_); first | refine WL.yld rfl binQ ?_)
    | ((with_reducible refine WL.isN_load ?_); first | refine WL.yld rfl loadQ ?_)
    | ((with_reducible refine WL.isN_conv ?_); first | refine WL.yld rfl convQ ?_)
    | ((with_reducible refine WL.isN_call ?_); first | refine WL.yld rfl lenQ ?_)
    | ((with_reducible refine WL.isN_box ?_); first | refine WL.step rfl (StepTo.boxA rfl rfl rfl rfl (fun _ => ?_)) | refine WL.step rfl (StepTo.box1 rfl rfl rfl rfl rfl (fun _ => ?_)))
    | ((with_reducible refine WL.isN_bslice ?_); first | refine WL.step rfl (StepTo.buildSlice rfl rfl rfl rfl rfl rfl rfl rfl rfl rfl cellsOfQ (fun _ => ?_)))
    | with_reducible refine WC.block ?_
    | (refine WC.cond rfl (fun hc => ?_) (fun hc => ?_) <;> (try first | (with_reducible replace hc := of_decide_eq_true hc) | (with_reducible replace hc := of_decide_eq_false hc) | (with_reducible replace hc := eqT hc) | (with_reducible replace hc := eqF hc) | (with_reducible replace hc := neT hc) | (with_reducible replace hc := neF hc) | (with_reducible replace hc := noT hc) | (with_reducible replace hc := noF hc)) <;> (try (exfalso; omega))))
    rename_i bS bG bH
    refine WC.sub (idx := [0, 2]) (τ' := [(0, .string (bs key)), (3, .pointer (some ⟨bS, 0, none⟩)), (6, .slice A2 L2.length c2)]) (H' := [.row A2 L2.length c2 5 1 (flat bc L2), .box bS 25 (Ck.St.cs ⟨ot, pt, os, ps, to_, tp, wi, ou, ins, op, pp, peer, m, l⟩)]) (by repeat (first | exact Sub.nil | refine Sub.cons rfl ?_ | refine Sub.consE rfl (int_eq (by omega)) ?_)) ⟨by decide, rfl⟩ ?_
    refine WC.cut (fun τ H => ∃ A4 c4, τ = [(0, .string (bs key)), (3, .pointer (some ⟨bS, 0, none⟩)), (6, .slice A4 L4.length c4)] ∧ H = [.row A4 L4.length c4 5 1 (flat bc L4), .box bS 25 (Ck.St.cs ⟨ot, pt, os, ps, to_, tp, wi, ou, ins, op, pp, peer, m, l⟩)]) ?_ ?_
    refine WC.anyI [1] (by kernel_rfl) ?_
    refine WA.take (idx := [1]) 0 rfl (by kernel_rfl) (by kernel_rfl) (by kernel_rfl) rfl ⟨by decide, rfl⟩ (Yld.pure rfl nrmQ) ?_
    refine WA.take (idx := [1]) 1 rfl (by kernel_rfl) (by kernel_rfl) (by kernel_rfl) rfl ⟨by decide, rfl⟩ (Yld.fieldAddr rfl rfl rfl rfl rfl rfl rfl) ?_
    refine WA.take (idx := [1]) 2 rfl (by kernel_rfl) (by kernel_rfl) (by kernel_rfl) rfl ⟨by decide, rfl⟩ (by first | exact Yld.load rfl rfl rfl rfl cellQ | exact Yld.loadAgg rfl rfl rfl rfl rfl aggQ) ?_
    refine WA.take (idx := [1]) 3 rfl (by kernel_rfl) (by kernel_rfl) (by kernel_rfl) rfl ⟨by decide, rfl⟩ (Yld.fieldAddr rfl rfl rfl rfl rfl rfl rfl) ?_
    refine WA.take (idx := [1]) 4 rfl (by kernel_rfl) (by kernel_rfl) (by kernel_rfl) rfl ⟨by decide, rfl⟩ (by first | exact Yld.load rfl rfl rfl rfl cellQ | exact Yld.loadAgg rfl rfl rfl rfl rfl aggQ) ?_
    refine WA.take (idx := [1]) 7 rfl (by kernel_rfl) (by kernel_rfl) (by kernel_rfl) rfl ⟨by decide, rfl⟩ (Yld.fieldAddr rfl rfl rfl rfl rfl rfl rfl) ?_
    refine WA.take (idx := [1]) 8 rfl (by kernel_rfl) (by kernel_rfl) (by kernel_rfl) rfl ⟨by decide, rfl⟩ (by first | exact Yld.load rfl rfl rfl rfl cellQ | exact Yld.loadAgg rfl rfl rfl rfl rfl aggQ) ?_
    refine WA.take (idx := [1]) 9 rfl (by kernel_rfl) (by kernel_rfl) (by kernel_rfl) rfl ⟨by decide, rfl⟩ (by first | exact Yld.lenSlice rfl rfl rfl | exact Yld.lenStr rfl rfl rfl) ?_
    refine WA.two 5 10 (by kernel_rfl) rfl rfl rfl rfl ?_ ?_
    · refine StepTo.buildSlice rfl rfl rfl rfl rfl rfl rfl rfl rfl rfl cellsOfQ (fun _ => ⟨⟨[2], by decide, rfl⟩, ?_⟩)
      refine WA.two 6 10 (by kernel_rfl) rfl rfl rfl rfl ?_ ?_
      · refine StepTo.callP (us := [.slice A2 L2.length c2, .int .i64 8, .slice (some ⟨_, 0, none⟩) 2 2]) (HI := [.row A2 L2.length c2 5 1 (flat bc L2), .box _ 3 ([m, l].map nv)]) [1, 0] [2] ⟨by decide, rfl⟩ rfl ⟨by decide, rfl⟩ rfl rfl rfl rfl rfl rfl (by kernel_rfl) (fun w hw hS => p3 _ A2 c2 w hS) ?_
        rintro v NN ⟨A3, c3, rfl, rfl⟩
        refine ⟨⟨[2], by decide, rfl⟩, ?_⟩
        refine WA.one 10 (by kernel_rfl) rfl rfl ?_
        refine StepTo.buildSlice rfl rfl rfl rfl rfl rfl rfl rfl rfl rfl cellsOfQ (fun _ => ⟨⟨[3], by decide, rfl⟩, ?_⟩)
        refine WA.one 11 (by kernel_rfl) rfl rfl ?_
        refine StepTo.callP (us := [.slice A3 L3.length c3, .int .i64 1, .slice (some ⟨_, 0, none⟩) 1 1]) (HI := [.row A3 L3.length c3 5 1 (flat bc L3), .box _ 3 ([peer.length].map nv)]) [1, 0] [2, 3] ⟨by decide, rfl⟩ rfl ⟨by decide, rfl⟩ rfl rfl rfl rfl rfl rfl (by kernel_rfl) (fun w hw hS => p4 _ A3 c3 w hS) ?_
        rintro v NN ⟨A4, c4, rfl, rfl⟩
        refine ⟨⟨[3], by decide, rfl⟩, ?_⟩
        refine WA.take (idx := [3]) 12 rfl (by kernel_rfl) (by kernel_rfl) (by kernel_rfl) rfl ⟨by decide, rfl⟩ (Yld.pure rfl nrmQ) ?_
        refine WA.done (by kernel_rfl) ?_
        refine WQ.thenN ?_
        exact WQ.met _ _ [0, 3] (by repeat (first | exact Sub.nil | refine Sub.cons rfl ?_ | refine Sub.consE rfl (int_eq (by omega)) ?_)) ⟨by decide, rfl⟩ ⟨A4, c4, rfl, rfl⟩
      · refine StepTo.buildSlice rfl rfl rfl rfl rfl rfl rfl rfl rfl rfl cellsOfQ (fun _ => ⟨⟨[3], by decide, rfl⟩, ?_⟩)
        refine WA.one 6 (by kernel_rfl) rfl rfl ?_
        refine StepTo.callP (us := [.slice A2 L2.length c2, .int .i64 8, .slice (some ⟨_, 0, none⟩) 2 2]) (HI := [.row A2 L2.length c2 5 1 (flat bc L2), .box _ 3 ([m, l].map nv)]) [2, 1] [0, 3] ⟨by decide, rfl⟩ rfl ⟨by decide, rfl⟩ rfl rfl rfl rfl rfl rfl (by kernel_rfl) (fun w hw hS => p3 _ A2 c2 w hS) ?_
        rintro v NN ⟨A3, c3, rfl, rfl⟩
        refine ⟨⟨[3], by decide, rfl⟩, ?_⟩
        refine WA.one 11 (by kernel_rfl) rfl rfl ?_
        refine StepTo.callP (us := [.slice A3 L3.length c3, .int .i64 1, .slice (some ⟨_, 0, none⟩) 1 1]) (HI := [.row A3 L3.length c3 5 1 (flat bc L3), .box _ 3 ([peer.length].map nv)]) [0, 2] [1, 3] ⟨by decide, rfl⟩ rfl ⟨by decide, rfl⟩ rfl rfl rfl rfl rfl rfl (by kernel_rfl) (fun w hw hS => p4 _ A3 c3 w hS) ?_
        rintro v NN ⟨A4, c4, rfl, rfl⟩
        refine ⟨⟨[3], by decide, rfl⟩, ?_⟩
        refine WA.take (idx := [3]) 12 rfl (by kernel_rfl) (by kernel_rfl) (by kernel_rfl) rfl ⟨by decide, rfl⟩ (Yld.pure rfl nrmQ) ?_
        refine WA.done (by kernel_rfl) ?_
        refine WQ.thenN ?_
        exact WQ.met _ _ [0, 3] (by repeat (first | exact Sub.nil | refine Sub.cons rfl ?_ | refine Sub.consE rfl (int_eq (by omega)) ?_)) ⟨by decide, rfl⟩ ⟨A4, c4, rfl, rfl⟩
    · refine StepTo.buildSlice rfl rfl rfl rfl rfl rfl rfl rfl rfl rfl cellsOfQ (fun _ => ⟨⟨[2], by decide, rfl⟩, ?_⟩)
      refine WA.one 5 (by kernel_rfl) rfl rfl ?_
      refine StepTo.buildSlice rfl rfl rfl rfl rfl rfl rfl rfl rfl rfl cellsOfQ (fun _ => ⟨⟨[3], by decide, rfl⟩, ?_⟩)
      refine WA.one 6 (by kernel_rfl) rfl rfl ?_
      refine StepTo.callP (us := [.slice A2 L2.length c2, .int .i64 8, .slice (some ⟨_, 0, none⟩) 2 2]) (HI := [.row A2 L2.length c2 5 1 (flat bc L2), .box _ 3 ([m, l].map nv)]) [2, 0] [1, 3] ⟨by decide, rfl⟩ rfl ⟨by decide, rfl⟩ rfl rfl rfl rfl rfl rfl (by kernel_rfl) (fun w hw hS => p3 _ A2 c2 w hS) ?_
      rintro v NN ⟨A3, c3, rfl, rfl⟩
      refine ⟨⟨[3], by decide, rfl⟩, ?_⟩
      refine WA.one 11 (by kernel_rfl) rfl rfl ?_
      refine StepTo.callP (us := [.slice A3 L3.length c3, .int .i64 1, .slice (some ⟨_, 0, none⟩) 1 1]) (HI := [.row A3 L3.length c3 5 1 (flat bc L3), .box _ 3 ([peer.length].map nv)]) [0, 2] [1, 3] ⟨by decide, rfl⟩ rfl ⟨by decide, rfl⟩ rfl rfl rfl rfl rfl rfl (by kernel_rfl) (fun w hw hS => p4 _ A3 c3 w hS) ?_
      rintro v NN ⟨A4, c4, rfl, rfl⟩
      refine ⟨⟨[3], by decide, rfl⟩, ?_⟩
      refine WA.take (idx := [3]) 12 rfl (by kernel_rfl) (by kernel_rfl) (by kernel_rfl) rfl ⟨by decide, rfl⟩ (Yld.pure rfl nrmQ) ?_
      refine WA.done (by kernel_rfl) ?_
      refine WQ.thenN ?_
      exact WQ.met _ _ [0, 3] (by repeat (first | exact Sub.nil | refine Sub.cons rfl ?_ | refine Sub.consE rfl (int_eq (by omega)) ?_)) ⟨by decide, rfl⟩ ⟨A4, c4, rfl, rfl⟩
    rintro τ H ⟨A4, c4, rfl, rfl⟩
    refine WC.rowAt 0 rfl (by omega) fun g5 hg5 => ?_
    subst hg5
    repeat' (first
    | refine goS ?_
    | ((with_reducible refine WL.isN_bin ?_); first | refine WL.yld rfl (Yld.concatS rfl rfl rfl (by simp only [List.length_append]; omega)) ?_ | refine WL.yld rfl binQ ?_)
    | ((with_reducible refine WL.isN_load ?_); first | refine WL.yld rfl loadQ ?_)
    | ((with_reducible refine WL.isN_conv ?_); first | refine WL.yld rfl (Yld.ofBytes (s := L4) rfl rfl rfl rfl rfl rfl (by rw [← flat_bc L4]; exact CellsAt.rowAll 0 rfl)) ?_ | refine WL.yld rfl convQ ?_)
    | ((with_reducible refine WL.isN_call ?_); first | refine WL.step rfl (StepTo.callV (v := .string (bs Z)) (us := [.string (bs key), .string (bs (L4 ++ peer))]) rfl rfl rfl rfl rfl (by kernel_rfl) (fun w hw => hsum w) ?_) | refine WL.yld rfl lenQ ?_)
    | ((with_reducible refine WL.isN_box ?_); first | refine WL.step rfl (StepTo.boxA rfl rfl rfl rfl (fun _ => ?_)) | refine WL.step rfl (StepTo.box1 rfl rfl rfl rfl rfl (fun _ => ?_)))
    | ((with_reducible refine WL.isN_bslice ?_); first | refine WL.step rfl (StepTo.buildSlice rfl rfl rfl rfl rfl rfl rfl rfl rfl rfl cellsOfQ (fun _ => ?_)))
    | with_reducible refine WC.block ?_
    | (refine WC.cond rfl (fun hc => ?_) (fun hc => ?_) <;> (try first | (with_reducible replace hc := of_decide_eq_true hc) | (with_reducible replace hc := of_decide_eq_false hc) | (with_reducible replace hc := eqT hc) | (with_reducible replace hc := eqF hc) | (with_reducible replace hc := neT hc) | (with_reducible replace hc := neF hc) | (with_reducible replace hc := noT hc) | (with_reducible replace hc := noF hc)) <;> (try (exfalso; omega))))
    exact WQ.body (Reads.tmp2 rfl rfl rfl) fun w' hw' => ⟨rfl, hw'.ext.below⟩
theorem num_e (x k : Nat) (hx : x < 9223372036854775808) (hk0 : 0 < k) (hk : k ≤ 8) : ∃ N : List UInt8, Ck.num x k = N ∧ N.length = k ∧ ∀ w, Calls Try.prog 41 #[.int .i64 x, .int .i64 k] w
    fun e w' => e = .returned (.string (bs N)) ∧ Below w.heap.size w w' := ⟨_, rfl, Ck.num_len _ _, fun w => number_q x k hx hk0 hk w⟩
set_option maxHeartbeats 4000000 in
theorem rbytes_q (s : Ck.St) (hs : s.Ok) (hr : Ck.right s = true) (hp : s.peer.length ≤ 1000000) (w : World) : Calls Try.prog 29 #[.agg s.cs.toArray] w
    fun e w' => e = .returned (.string (bs (Ck.bytes s))) ∧ Below w.heap.size w w' := by
  obtain ⟨hpl, ⟨hm0, hm1, hl0, hl1⟩, _⟩ := Ck.right_iff.1 hr
  obtain ⟨h1, h2, h3, h4, h5, h6, h7, h8, h9, h10, h11⟩ := hs
  obtain ⟨ot, pt, os, ps, to_, tp, wi, ou, ins, op, pp, peer, made, life⟩ := s
  simp only at h1 h2 h3 h4 h5 h6 h7 h8 h9 h10 h11 hm0 hm1 hl0 hl1 hpl hp
  obtain ⟨m, rfl⟩ := Int.eq_ofNat_of_zero_le hm0
  obtain ⟨l, rfl⟩ := Int.eq_ofNat_of_zero_le hl0
  clear hr
  obtain ⟨N0, e0, l0, q0⟩ := num_e ot 4 (by omega) (by omega) (by omega)
  obtain ⟨N1, e1, l1, q1⟩ := num_e pt 4 (by omega) (by omega) (by omega)
  obtain ⟨N2, e2, l2, q2⟩ := num_e os 4 (by omega) (by omega) (by omega)
  obtain ⟨N3, e3, l3, q3⟩ := num_e ps 4 (by omega) (by omega) (by omega)
  obtain ⟨N4, e4, l4, q4⟩ := num_e to_ 4 (by omega) (by omega) (by omega)
  obtain ⟨N5, e5, l5, q5⟩ := num_e tp 4 (by omega) (by omega) (by omega)
  obtain ⟨N6, e6, l6, q6⟩ := num_e wi 4 (by omega) (by omega) (by omega)
  obtain ⟨N7, e7, l7, q7⟩ := num_e ou 2 (by omega) (by omega) (by omega)
  obtain ⟨N8, e8, l8, q8⟩ := num_e ins 2 (by omega) (by omega) (by omega)
  obtain ⟨N9, e9, l9, q9⟩ := num_e op 2 (by omega) (by omega) (by omega)
  obtain ⟨N10, e10, l10, q10⟩ := num_e pp 2 (by omega) (by omega) (by omega)
  obtain ⟨N11, e11, l11, q11⟩ := num_e m 8 (by omega) (by omega) (by omega)
  obtain ⟨N12, e12, l12, q12⟩ := num_e l 8 (by omega) (by omega) (by omega)
  obtain ⟨N13, e13, l13, q13⟩ := num_e peer.length 1 (by omega) (by omega) (by omega)
  have hb : (((((((((((((N0 ++ N1) ++ N2) ++ N3) ++ N4) ++ N5) ++ N6) ++ N7) ++ N8) ++ N9) ++ N10) ++ N11) ++ N12) ++ N13) ++ peer = Ck.bytes ⟨ot, pt, os, ps, to_, tp, wi, ou, ins, op, pp, peer, m, l⟩ := by
    rw [← e0, ← e1, ← e2, ← e3, ← e4, ← e5, ← e6, ← e7, ← e8, ← e9, ← e10, ← e11, ← e12, ← e13]
    simp only [Ck.bytes, Ck.head, List.append_assoc]
    rfl
  rw [← hb]
  clear hb e0 e1 e2 e3 e4 e5 e6 e7 e8 e9 e10 e11 e12 e13
  simp only [Ck.St.cs]
  refine enterW (fun _ => False) _ Try.func29 rfl (by simp only [Try.ntmps29, List.length_cons, List.length_nil, Nat.reduceAdd, Nat.reduceSub]; rfl) ?_
  repeat' (first
    | refine goS ?_
    | ((with_reducible refine WL.isN_bin ?_); first | refine WL.yld rfl (Yld.concatS rfl rfl rfl (by (try simp only [List.length_append]); omega)) ?_ | refine WL.yld rfl binQ ?_)
    | ((with_reducible refine WK.isN_bin ?_); first | refine WK.yld rfl (Yld.concatS rfl rfl rfl (by (try simp only [List.length_append]); omega)) ?_ | refine WK.yld rfl binQ ?_)
    | ((with_reducible refine WL.isN_load ?_); first | refine WL.yld rfl loadQ ?_)
    | ((with_reducible refine WK.isN_load ?_); first | refine WK.yld rfl loadQ ?_)
    | ((with_reducible refine WL.isN_conv ?_); first | refine WL.yld rfl convQ ?_)
    | ((with_reducible refine WK.isN_conv ?_); first | refine WK.yld rfl convQ ?_)
    | ((with_reducible refine WL.isN_call ?_); first | refine WK.yld rfl (Yld.lenB rfl rfl rfl) ?_ | refine WK.step rfl (Qui.call (v := .string (bs N0)) (us := [.int .i64 ot, .int .i64 4]) rfl rfl rfl (by kernel_rfl) (fun w _ => q0 w)) ?_ | refine WK.step rfl (Qui.call (v := .string (bs N1)) (us := [.int .i64 pt, .int .i64 4]) rfl rfl rfl (by kernel_rfl) (fun w _ => q1 w)) ?_ | refine WK.step rfl (Qui.call (v := .string (bs N2)) (us := [.int .i64 os, .int .i64 4]) rfl rfl rfl (by kernel_rfl) (fun w _ => q2 w)) ?_ | refine WK.step rfl (Qui.call (v := .string (bs N3)) (us := [.int .i64 ps, .int .i64 4]) rfl rfl rfl (by kernel_rfl) (fun w _ => q3 w)) ?_ | refine WK.step rfl (Qui.call (v := .string (bs N4)) (us := [.int .i64 to_, .int .i64 4]) rfl rfl rfl (by kernel_rfl) (fun w _ => q4 w)) ?_ | refine WK.step rfl (Qui.call (v := .string (bs N5)) (us := [.int .i64 tp, .int .i64 4]) rfl rfl rfl (by kernel_rfl) (fun w _ => q5 w)) ?_ | refine WK.step rfl (Qui.call (v := .string (bs N6)) (us := [.int .i64 wi, .int .i64 4]) rfl rfl rfl (by kernel_rfl) (fun w _ => q6 w)) ?_ | refine WK.step rfl (Qui.call (v := .string (bs N7)) (us := [.int .i64 ou, .int .i64 2]) rfl rfl rfl (by kernel_rfl) (fun w _ => q7 w)) ?_ | refine WK.step rfl (Qui.call (v := .string (bs N8)) (us := [.int .i64 ins, .int .i64 2]) rfl rfl rfl (by kernel_rfl) (fun w _ => q8 w)) ?_ | refine WK.step rfl (Qui.call (v := .string (bs N9)) (us := [.int .i64 op, .int .i64 2]) rfl rfl rfl (by kernel_rfl) (fun w _ => q9 w)) ?_ | refine WK.step rfl (Qui.call (v := .string (bs N10)) (us := [.int .i64 pp, .int .i64 2]) rfl rfl rfl (by kernel_rfl) (fun w _ => q10 w)) ?_ | refine WK.step rfl (Qui.call (v := .string (bs N11)) (us := [.int .i64 m, .int .i64 8]) rfl rfl rfl (by kernel_rfl) (fun w _ => q11 w)) ?_ | refine WK.step rfl (Qui.call (v := .string (bs N12)) (us := [.int .i64 l, .int .i64 8]) rfl rfl rfl (by kernel_rfl) (fun w _ => q12 w)) ?_ | refine WK.step rfl (Qui.call (v := .string (bs N13)) (us := [.int .i64 (peer.length : Nat), .int .i64 1]) rfl rfl rfl (by kernel_rfl) (fun w _ => q13 w)) ?_ | refine WL.yld rfl lenQ ?_)
    | ((with_reducible refine WK.isN_call ?_); first | refine WK.yld rfl (Yld.lenB rfl rfl rfl) ?_ | refine WK.step rfl (Qui.call (v := .string (bs N0)) (us := [.int .i64 ot, .int .i64 4]) rfl rfl rfl (by kernel_rfl) (fun w _ => q0 w)) ?_ | refine WK.step rfl (Qui.call (v := .string (bs N1)) (us := [.int .i64 pt, .int .i64 4]) rfl rfl rfl (by kernel_rfl) (fun w _ => q1 w)) ?_ | refine WK.step rfl (Qui.call (v := .string (bs N2)) (us := [.int .i64 os, .int .i64 4]) rfl rfl rfl (by kernel_rfl) (fun w _ => q2 w)) ?_ | refine WK.step rfl (Qui.call (v := .string (bs N3)) (us := [.int .i64 ps, .int .i64 4]) rfl rfl rfl (by kernel_rfl) (fun w _ => q3 w)) ?_ | refine WK.step rfl (Qui.call (v := .string (bs N4)) (us := [.int .i64 to_, .int .i64 4]) rfl rfl rfl (by kernel_rfl) (fun w _ => q4 w)) ?_ | refine WK.step rfl (Qui.call (v := .string (bs N5)) (us := [.int .i64 tp, .int .i64 4]) rfl rfl rfl (by kernel_rfl) (fun w _ => q5 w)) ?_ | refine WK.step rfl (Qui.call (v := .string (bs N6)) (us := [.int .i64 wi, .int .i64 4]) rfl rfl rfl (by kernel_rfl) (fun w _ => q6 w)) ?_ | refine WK.step rfl (Qui.call (v := .string (bs N7)) (us := [.int .i64 ou, .int .i64 2]) rfl rfl rfl (by kernel_rfl) (fun w _ => q7 w)) ?_ | refine WK.step rfl (Qui.call (v := .string (bs N8)) (us := [.int .i64 ins, .int .i64 2]) rfl rfl rfl (by kernel_rfl) (fun w _ => q8 w)) ?_ | refine WK.step rfl (Qui.call (v := .string (bs N9)) (us := [.int .i64 op, .int .i64 2]) rfl rfl rfl (by kernel_rfl) (fun w _ => q9 w)) ?_ | refine WK.step rfl (Qui.call (v := .string (bs N10)) (us := [.int .i64 pp, .int .i64 2]) rfl rfl rfl (by kernel_rfl) (fun w _ => q10 w)) ?_ | refine WK.step rfl (Qui.call (v := .string (bs N11)) (us := [.int .i64 m, .int .i64 8]) rfl rfl rfl (by kernel_rfl) (fun w _ => q11 w)) ?_ | refine WK.step rfl (Qui.call (v := .string (bs N12)) (us := [.int .i64 l, .int .i64 8]) rfl rfl rfl (by kernel_rfl) (fun w _ => q12 w)) ?_ | refine WK.step rfl (Qui.call (v := .string (bs N13)) (us := [.int .i64 (peer.length : Nat), .int .i64 1]) rfl rfl rfl (by kernel_rfl) (fun w _ => q13 w)) ?_ | refine WK.yld rfl lenQ ?_)
    | ((with_reducible refine WL.isN_box ?_); first | refine WL.step rfl (StepTo.boxA rfl rfl rfl rfl (fun _ => ?_)) | refine WL.step rfl (StepTo.box1 rfl rfl rfl rfl rfl (fun _ => ?_)))
    | with_reducible refine WC.block ?_
    | (refine WC.quiet (i := 1) (by kernel_rfl) (by kernel_rfl) ?_)
    | (refine WC.quiet (i := 2) (by kernel_rfl) (by kernel_rfl) ?_)
    | (refine WC.quiet (i := 3) (by kernel_rfl) (by kernel_rfl) ?_)
    | (refine WC.cond rfl (fun hc => ?_) (fun hc => ?_) <;> (try first | (with_reducible replace hc := of_decide_eq_true hc) | (with_reducible replace hc := of_decide_eq_false hc) | (with_reducible replace hc := eqT hc) | (with_reducible replace hc := eqF hc) | (with_reducible replace hc := neT hc) | (with_reducible replace hc := neF hc) | (with_reducible replace hc := noT hc) | (with_reducible replace hc := noF hc)) <;> (try (exfalso; omega))))

  exact WQ.body (Reads.tmp rfl rfl) fun w' hw' => ⟨rfl, hw'.ext.below⟩
theorem rbuild_q (key : List UInt8) (hkey : key.length ≤ 1000000) (s : Ck.St) (hs : s.Ok) (hp : s.peer.length ≤ 1000000) (w : World) : Calls Try.prog 12 #[.string (bs key), .agg s.cs.toArray] w
    fun e w' => e = .returned (.tuple #[.string (bs (Ck.build key s).1), .int .i64 (Ck.build key s).2]) ∧ Below w.heap.size w w' := by
  have hrq := fun w => ckrright_q s hs hp w
  cases hr : Ck.right s with
  | false =>
    have hb : Ck.build key s = ([], 1) := by rw [Ck.build, hr]; rfl
    rw [hb]
    rw [hr] at hrq
    refine enterW (fun _ => False) _ Try.func12 rfl (by simp only [Try.ntmps12, List.length_cons, List.length_nil, Nat.reduceAdd, Nat.reduceSub]; rfl) ?_
    repeat' (first
    | refine goS ?_
    | ((with_reducible refine WL.isN_bin ?_); first | refine WL.yld rfl binQ ?_)
    | ((with_reducible refine WL.isN_load ?_); first | refine WL.yld rfl loadQ ?_)
    | ((with_reducible refine WL.isN_call ?_); first | refine WL.step rfl (StepTo.callV (v := .bool false) (us := [.agg s.cs.toArray]) rfl rfl rfl rfl rfl (by kernel_rfl) (fun w hw => hrq w) ?_))
    | ((with_reducible refine WL.isN_box ?_); first | refine WL.step rfl (StepTo.boxA rfl rfl rfl rfl (fun _ => ?_)) | refine WL.step rfl (StepTo.box1 rfl rfl rfl rfl rfl (fun _ => ?_)))
    | with_reducible refine WC.block ?_
    | (refine WC.cond rfl (fun hc => ?_) (fun hc => ?_) <;> (try first | (with_reducible replace hc := of_decide_eq_true hc) | (with_reducible replace hc := of_decide_eq_false hc) | (with_reducible replace hc := eqT hc) | (with_reducible replace hc := eqF hc) | (with_reducible replace hc := neT hc) | (with_reducible replace hc := neF hc) | (with_reducible replace hc := noT hc) | (with_reducible replace hc := noF hc)) <;> (try (exfalso; omega))))
    exact WQ.body (Reads.tmp2 rfl rfl rfl) fun w' hw' => ⟨rfl, hw'.ext.below⟩
  | true =>
    have hb : Ck.build key s = (Hm.sum key (Ck.bytes s) ++ Ck.bytes s, 0) := by rw [Ck.build, if_pos hr]
    rw [hb]
    rw [hr] at hrq
    have hbl := Ck.bytes_len s
    have hbq := fun w => rbytes_q s hs hr hp w
    have hsum := fun w => rhm_q key (Ck.bytes s) (by omega) (by omega) w
    have hsl := Hm.sum_len key (Ck.bytes s)
    generalize Hm.sum key (Ck.bytes s) = Z at *
    generalize Ck.bytes s = B at *
    refine enterW (fun _ => False) _ Try.func12 rfl (by simp only [Try.ntmps12, List.length_cons, List.length_nil, Nat.reduceAdd, Nat.reduceSub]; rfl) ?_
    repeat' (first
    | refine goS ?_
    | ((with_reducible refine WL.isN_bin ?_); first | refine WL.yld rfl (Yld.concatS rfl rfl rfl (by omega)) ?_ | refine WL.yld rfl binQ ?_)
    | ((with_reducible refine WL.isN_load ?_); first | refine WL.yld rfl loadQ ?_)
    | ((with_reducible refine WL.isN_call ?_); first | refine WL.step rfl (StepTo.callV (v := .bool true) (us := [.agg s.cs.toArray]) rfl rfl rfl rfl rfl (by kernel_rfl) (fun w hw => hrq w) ?_) | refine WL.step rfl (StepTo.callV (v := .string (bs B)) (us := [.agg s.cs.toArray]) rfl rfl rfl rfl rfl (by kernel_rfl) (fun w hw => hbq w) ?_) | refine WL.step rfl (StepTo.callV (v := .string (bs Z)) (us := [.string (bs key), .string (bs B)]) rfl rfl rfl rfl rfl (by kernel_rfl) (fun w hw => hsum w) ?_))
    | ((with_reducible refine WL.isN_box ?_); first | refine WL.step rfl (StepTo.boxA rfl rfl rfl rfl (fun _ => ?_)) | refine WL.step rfl (StepTo.box1 rfl rfl rfl rfl rfl (fun _ => ?_)))
    | with_reducible refine WC.block ?_
    | (refine WC.cond rfl (fun hc => ?_) (fun hc => ?_) <;> (try first | (with_reducible replace hc := of_decide_eq_true hc) | (with_reducible replace hc := of_decide_eq_false hc) | (with_reducible replace hc := eqT hc) | (with_reducible replace hc := eqF hc) | (with_reducible replace hc := neT hc) | (with_reducible replace hc := neF hc) | (with_reducible replace hc := noT hc) | (with_reducible replace hc := noF hc)) <;> (try (exfalso; omega))))
    exact WQ.body (Reads.tmp2 rfl rfl rfl) fun w' hw' => ⟨rfl, hw'.ext.below⟩
end Go.Proofs.Ytheilikelcgdmaa
