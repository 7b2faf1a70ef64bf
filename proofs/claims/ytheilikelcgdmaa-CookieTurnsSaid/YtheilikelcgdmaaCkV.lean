/- Cookies: numbers in bytes, of the program and of the document. -/
import Derived.Test.YtheilikelcgdmaaCkF
import Derived.Test.YtheilikelcgdmaaRow
import Derived.Test.YtheilikelcgdmaaBld
import Derived.Laws.BitsAllLaws
namespace Go.Proofs.Ytheilikelcgdmaa
open Go.RowKit Go.IntWalk
set_option linter.unusedVariables false
set_option linter.unusedSectionVars false
set_option maxRecDepth 100000

theorem shr256 (n j : Nat) : Value.int .i64 ((n : Int) / 2 ^ (8 * j)) = .int .i64 ((n / 256 ^ j : Nat) : Int) := by
  have h : (2 : Int) ^ (8 * j) = ((256 ^ j : Nat) : Int) := by
    rw [Int.natCast_pow, Int.pow_mul]
    rfl
  rw [h]
  rfl
theorem shl64 (n : Nat) : Value.int .i64 (IntKind.i64.wrap (Ck.w64 n * 2 ^ 8)) = .int .i64 (Ck.w64 (n * 256)) := by
  rw [IntKind.wrap_i64]
  unfold Ck.w64
  refine int_eq ?_
  omega
theorem or64 (n : Nat) (c : UInt8) : Value.int .i64 (IntKind.i64.wrap ((BitVec.ofInt IntKind.i64.bits (Ck.w64 (n * 256)) ||| BitVec.ofInt IntKind.i64.bits (c.toNat : Int)).toNat : Int)) = .int .i64 (Ck.w64 (n * 256 + c.toNat)) := by
  show Value.int .i64 (IntKind.i64.wrap ((BitVec.ofInt 64 (Ck.w64 (n * 256)) ||| BitVec.ofInt 64 (c.toNat : Int)).toNat : Int)) = _
  have hc := b_lt c
  have h1 : (BitVec.ofInt 64 (Ck.w64 (n * 256))).toNat = n % 72057594037927936 * 256 := by
    rw [BitVec.toNat_ofInt]
    unfold Ck.w64
    omega
  have h2 : (BitVec.ofInt 64 (c.toNat : Int)).toNat = c.toNat := by
    rw [BitVec.toNat_ofInt]
    omega
  rw [BitVec.toNat_or, h1, h2, Ck.or_low, IntKind.wrap_i64]
  unfold Ck.w64
  refine int_eq ?_
  omega
theorem u32_64 {n : Nat} (h : n < 4294967296) : Value.int .u32 (IntKind.u32.wrap (Ck.w64 n)) = .int .u32 (n : Int) := by
  rw [Ck.w64_small (by omega), u32_in _ (by omega)]
theorem u16_64 {n : Nat} (h : n < 65536) : Value.int .u16 (IntKind.u16.wrap (Ck.w64 n)) = .int .u16 (n : Int) := by
  rw [Ck.w64_small (by omega), u16_in _ (by omega)]
section
variable {P : Program} {w0 : World} {D : Nat → Prop} {n : Nat} [Dfr] {τ : Tm} {H : List Item} {o : Oper} {v : Value}
theorem Yld.shrE {T u : Nat} {x y : Operand} {k k' : IntKind} {p z : Int} (q : Nat) (ho : o.op = .binOp .shr T x y u) (hx : evl τ x = some (.int k p)) (hy : evl τ y = some (.int k' z)) (hz : z = (q : Int)) (hq : q ≤ k.bits) (hv : Value.int k (p / 2 ^ q) = v) : Yld P w0 D n o τ H v := by
  subst hz
  exact Yld.shr q ho hx hy (by rw [Nat.ble_eq]; exact hq) hv
theorem Yld.shlE {T u : Nat} {x y : Operand} {k k' : IntKind} {p z : Int} (q : Nat) (ho : o.op = .binOp .shl T x y u) (hx : evl τ x = some (.int k p)) (hy : evl τ y = some (.int k' z)) (hz : z = (q : Int)) (hq : q ≤ k.bits) (hv : Value.int k (k.wrap (p * 2 ^ q)) = v) : Yld P w0 D n o τ H v := by
  subst hz
  exact Yld.shl q ho hx hy (by rw [Nat.ble_eq]; exact hq) hv
end
/-- A number in so many bytes, of the document. -/
theorem number_q (x k : Nat) (hx : x < 9223372036854775808) (hk0 : 0 < k) (hk : k ≤ 8) (w : World) : Calls Try.prog 41 #[.int .i64 x, .int .i64 k] w
    fun e w' => e = .returned (.string (bs (Ck.num x k))) ∧ Below w.heap.size w w' := by
  refine enterW (fun _ => False) _ Try.func41 rfl (by simp only [Try.ntmps41, List.length_cons, List.length_nil, Nat.reduceAdd, Nat.reduceSub]; rfl) ?_
  repeat' (first
    | refine goS ?_
    | ((with_reducible refine WL.isN_bin ?_); first | refine WL.yld rfl binQ ?_)
    | ((with_reducible refine WL.isN_conv ?_); first | refine WL.yld rfl convQ ?_)
    | ((with_reducible refine WL.isN_call ?_); first | refine WL.step rfl (StepTo.append 0 rfl rfl rfl rfl rfl rfl rfl rfl rfl rfl rfl rfl (by first | exact CellsAt.boxAll 0 rfl | exact CellsAt.boxAll 1 rfl | exact CellsAt.boxAll 2 rfl | exact CellsAt.boxAll 3 rfl | exact CellsAt.boxAll 4 rfl) rfl rfl (by omega) (fun _ _ => ⟨_, setQ, ?_⟩)) | refine WL.step rfl (StepTo.append 1 rfl rfl rfl rfl rfl rfl rfl rfl rfl rfl rfl rfl (by first | exact CellsAt.boxAll 0 rfl | exact CellsAt.boxAll 1 rfl | exact CellsAt.boxAll 2 rfl | exact CellsAt.boxAll 3 rfl | exact CellsAt.boxAll 4 rfl) rfl rfl (by omega) (fun _ _ => ⟨_, setQ, ?_⟩)) | refine WL.step rfl (StepTo.append 2 rfl rfl rfl rfl rfl rfl rfl rfl rfl rfl rfl rfl (by first | exact CellsAt.boxAll 0 rfl | exact CellsAt.boxAll 1 rfl | exact CellsAt.boxAll 2 rfl | exact CellsAt.boxAll 3 rfl | exact CellsAt.boxAll 4 rfl) rfl rfl (by omega) (fun _ _ => ⟨_, setQ, ?_⟩)) | refine WL.step rfl (StepTo.append 3 rfl rfl rfl rfl rfl rfl rfl rfl rfl rfl rfl rfl (by first | exact CellsAt.boxAll 0 rfl | exact CellsAt.boxAll 1 rfl | exact CellsAt.boxAll 2 rfl | exact CellsAt.boxAll 3 rfl | exact CellsAt.boxAll 4 rfl) rfl rfl (by omega) (fun _ _ => ⟨_, setQ, ?_⟩)) | refine WL.step rfl (StepTo.append 4 rfl rfl rfl rfl rfl rfl rfl rfl rfl rfl rfl rfl (by first | exact CellsAt.boxAll 0 rfl | exact CellsAt.boxAll 1 rfl | exact CellsAt.boxAll 2 rfl | exact CellsAt.boxAll 3 rfl | exact CellsAt.boxAll 4 rfl) rfl rfl (by omega) (fun _ _ => ⟨_, setQ, ?_⟩)) | refine WL.step rfl (StepTo.append 5 rfl rfl rfl rfl rfl rfl rfl rfl rfl rfl rfl rfl (by first | exact CellsAt.boxAll 0 rfl | exact CellsAt.boxAll 1 rfl | exact CellsAt.boxAll 2 rfl | exact CellsAt.boxAll 3 rfl | exact CellsAt.boxAll 4 rfl) rfl rfl (by omega) (fun _ _ => ⟨_, setQ, ?_⟩)) | refine WL.step rfl (StepTo.append 6 rfl rfl rfl rfl rfl rfl rfl rfl rfl rfl rfl rfl (by first | exact CellsAt.boxAll 0 rfl | exact CellsAt.boxAll 1 rfl | exact CellsAt.boxAll 2 rfl | exact CellsAt.boxAll 3 rfl | exact CellsAt.boxAll 4 rfl) rfl rfl (by omega) (fun _ _ => ⟨_, setQ, ?_⟩)))
    | ((with_reducible refine WL.isN_bslice ?_); first | refine WL.step rfl (StepTo.buildSlice rfl rfl rfl rfl rfl rfl rfl rfl rfl rfl cellsOfQ (fun _ => ?_)))
    | with_reducible refine WC.block ?_
    | (refine WC.cond rfl (fun hc => ?_) (fun hc => ?_) <;> (try first | (with_reducible replace hc := of_decide_eq_true hc) | (with_reducible replace hc := of_decide_eq_false hc) | (with_reducible replace hc := eqT hc) | (with_reducible replace hc := eqF hc) | (with_reducible replace hc := neT hc) | (with_reducible replace hc := neF hc) | (with_reducible replace hc := noT hc) | (with_reducible replace hc := noF hc)) <;> (try (exfalso; omega))))
  refine WC.nilRow 5 1 ?_
  refine WC.loop (fun mm τ H => ∃ (j : Nat) (A : Option Addr) (cc : Nat) (L : List UInt8), L ++ Ck.num x j = Ck.num x k ∧ mm = j ∧ L.length + j = k ∧ τ = [(0, .int .i64 x), (1, .int .i64 k), (5, .slice A L.length cc), (6, .int .i64 ((j : Int) - 1))] ∧ H = [.row A L.length cc 5 1 (flat bc L)]) k _ _ [0] ?_ ?_
    ⟨k, none, 0, [], rfl, rfl, by simp, rfl, rfl⟩ ?_
  · exact (by repeat (first | exact Sub.nil | refine Sub.cons rfl ?_ | refine Sub.consE rfl (int_eq (by omega)) ?_))
  · exact ⟨by decide, rfl⟩
  rintro mm τ H ⟨j, A, cc, L, hL, rfl, hlen, rfl, rfl⟩
  cases mm with
  | succ j =>
    have hnx : flat bc L ++ [bv (UInt8.ofNat (x / 256 ^ j))] = flat bc (L ++ [UInt8.ofNat (x / 256 ^ j)]) := by rw [flat_append]; rfl
    have hL2 : (L ++ [UInt8.ofNat (x / 256 ^ j)]) ++ Ck.num x j = Ck.num x k := by rw [← hL, Ck.num, List.append_assoc]; rfl
    have hl2 : (L ++ [UInt8.ofNat (x / 256 ^ j)]).length = L.length + 1 := by simp
    clear hL
    generalize L ++ [UInt8.ofNat (x / 256 ^ j)] = L2 at *
    repeat' (first
    | refine goS ?_
    | ((with_reducible refine WL.isN_bin ?_); first | refine WL.yld rfl (Yld.shrE (8 * j) rfl rfl rfl (by omega) (by show 8 * j ≤ 64; omega) (shr256 x j)) ?_ | refine WL.yld rfl binQ ?_)
    | ((with_reducible refine WL.isN_conv ?_); first | refine WL.yld rfl (Yld.convInt rfl rfl rfl rfl bOfN) ?_ | refine WL.yld rfl convQ ?_)
    | ((with_reducible refine WL.isN_call ?_); first | refine WL.step rfl (StepTo.appendTo 1 (flat bc L2) rfl rfl rfl rfl rfl rfl rfl rfl rfl rfl rfl rfl (CellsAt.boxAll 0 rfl) rfl rfl (by omega) hnx (fun _ _ => ⟨_, setQ, ?_⟩)) | refine WL.step rfl (StepTo.append 0 rfl rfl rfl rfl rfl rfl rfl rfl rfl rfl rfl rfl (by first | exact CellsAt.boxAll 0 rfl | exact CellsAt.boxAll 1 rfl | exact CellsAt.boxAll 2 rfl | exact CellsAt.boxAll 3 rfl | exact CellsAt.boxAll 4 rfl) rfl rfl (by omega) (fun _ _ => ⟨_, setQ, ?_⟩)) | refine WL.step rfl (StepTo.append 1 rfl rfl rfl rfl rfl rfl rfl rfl rfl rfl rfl rfl (by first | exact CellsAt.boxAll 0 rfl | exact CellsAt.boxAll 1 rfl | exact CellsAt.boxAll 2 rfl | exact CellsAt.boxAll 3 rfl | exact CellsAt.boxAll 4 rfl) rfl rfl (by omega) (fun _ _ => ⟨_, setQ, ?_⟩)) | refine WL.step rfl (StepTo.append 2 rfl rfl rfl rfl rfl rfl rfl rfl rfl rfl rfl rfl (by first | exact CellsAt.boxAll 0 rfl | exact CellsAt.boxAll 1 rfl | exact CellsAt.boxAll 2 rfl | exact CellsAt.boxAll 3 rfl | exact CellsAt.boxAll 4 rfl) rfl rfl (by omega) (fun _ _ => ⟨_, setQ, ?_⟩)) | refine WL.step rfl (StepTo.append 3 rfl rfl rfl rfl rfl rfl rfl rfl rfl rfl rfl rfl (by first | exact CellsAt.boxAll 0 rfl | exact CellsAt.boxAll 1 rfl | exact CellsAt.boxAll 2 rfl | exact CellsAt.boxAll 3 rfl | exact CellsAt.boxAll 4 rfl) rfl rfl (by omega) (fun _ _ => ⟨_, setQ, ?_⟩)) | refine WL.step rfl (StepTo.append 4 rfl rfl rfl rfl rfl rfl rfl rfl rfl rfl rfl rfl (by first | exact CellsAt.boxAll 0 rfl | exact CellsAt.boxAll 1 rfl | exact CellsAt.boxAll 2 rfl | exact CellsAt.boxAll 3 rfl | exact CellsAt.boxAll 4 rfl) rfl rfl (by omega) (fun _ _ => ⟨_, setQ, ?_⟩)) | refine WL.step rfl (StepTo.append 5 rfl rfl rfl rfl rfl rfl rfl rfl rfl rfl rfl rfl (by first | exact CellsAt.boxAll 0 rfl | exact CellsAt.boxAll 1 rfl | exact CellsAt.boxAll 2 rfl | exact CellsAt.boxAll 3 rfl | exact CellsAt.boxAll 4 rfl) rfl rfl (by omega) (fun _ _ => ⟨_, setQ, ?_⟩)) | refine WL.step rfl (StepTo.append 6 rfl rfl rfl rfl rfl rfl rfl rfl rfl rfl rfl rfl (by first | exact CellsAt.boxAll 0 rfl | exact CellsAt.boxAll 1 rfl | exact CellsAt.boxAll 2 rfl | exact CellsAt.boxAll 3 rfl | exact CellsAt.boxAll 4 rfl) rfl rfl (by omega) (fun _ _ => ⟨_, setQ, ?_⟩)))
    | ((with_reducible refine WL.isN_bslice ?_); first | refine WL.step rfl (StepTo.buildSlice (cs := [bv (UInt8.ofNat (x / 256 ^ j))]) rfl rfl rfl rfl rfl rfl rfl rfl rfl rfl cellsOfQ (fun _ => ?_)) | refine WL.step rfl (StepTo.buildSlice rfl rfl rfl rfl rfl rfl rfl rfl rfl rfl cellsOfQ (fun _ => ?_)))
    | with_reducible refine WC.block ?_
    | (refine WC.cond rfl (fun hc => ?_) (fun hc => ?_) <;> (try first | (with_reducible replace hc := of_decide_eq_true hc) | (with_reducible replace hc := of_decide_eq_false hc) | (with_reducible replace hc := eqT hc) | (with_reducible replace hc := eqF hc) | (with_reducible replace hc := neT hc) | (with_reducible replace hc := neF hc) | (with_reducible replace hc := noT hc) | (with_reducible replace hc := noF hc)) <;> (try (exfalso; omega))))
    rw [← hl2]
    exact WQ.rnd j _ _ [1] (by repeat (first | exact Sub.nil | refine Sub.cons rfl ?_ | refine Sub.consE rfl (int_eq (by omega)) ?_)) ⟨by decide, rfl⟩ (by omega) ⟨j, _, _, L2, hL2, rfl, by omega, rfl, rfl⟩
  | zero =>
    rw [Ck.num, List.append_nil] at hL
    rw [← hL]
    clear hL
    refine WC.rowAt 0 rfl (by omega) fun g5 hg5 => ?_
    subst hg5
    repeat' (first
    | refine goS ?_
    | ((with_reducible refine WL.isN_bin ?_); first | refine WL.yld rfl binQ ?_)
    | ((with_reducible refine WL.isN_conv ?_); first | refine WL.yld rfl (Yld.ofBytes (s := L) rfl rfl rfl rfl rfl rfl (by rw [← flat_bc L]; exact CellsAt.rowAll 0 rfl)) ?_ | refine WL.yld rfl convQ ?_)
    | ((with_reducible refine WL.isN_call ?_); first | refine WL.step rfl (StepTo.append 0 rfl rfl rfl rfl rfl rfl rfl rfl rfl rfl rfl rfl (by first | exact CellsAt.boxAll 0 rfl | exact CellsAt.boxAll 1 rfl | exact CellsAt.boxAll 2 rfl | exact CellsAt.boxAll 3 rfl | exact CellsAt.boxAll 4 rfl) rfl rfl (by omega) (fun _ _ => ⟨_, setQ, ?_⟩)) | refine WL.step rfl (StepTo.append 1 rfl rfl rfl rfl rfl rfl rfl rfl rfl rfl rfl rfl (by first | exact CellsAt.boxAll 0 rfl | exact CellsAt.boxAll 1 rfl | exact CellsAt.boxAll 2 rfl | exact CellsAt.boxAll 3 rfl | exact CellsAt.boxAll 4 rfl) rfl rfl (by omega) (fun _ _ => ⟨_, setQ, ?_⟩)) | refine WL.step rfl (StepTo.append 2 rfl rfl rfl rfl rfl rfl rfl rfl rfl rfl rfl rfl (by first | exact CellsAt.boxAll 0 rfl | exact CellsAt.boxAll 1 rfl | exact CellsAt.boxAll 2 rfl | exact CellsAt.boxAll 3 rfl | exact CellsAt.boxAll 4 rfl) rfl rfl (by omega) (fun _ _ => ⟨_, setQ, ?_⟩)) | refine WL.step rfl (StepTo.append 3 rfl rfl rfl rfl rfl rfl rfl rfl rfl rfl rfl rfl (by first | exact CellsAt.boxAll 0 rfl | exact CellsAt.boxAll 1 rfl | exact CellsAt.boxAll 2 rfl | exact CellsAt.boxAll 3 rfl | exact CellsAt.boxAll 4 rfl) rfl rfl (by omega) (fun _ _ => ⟨_, setQ, ?_⟩)) | refine WL.step rfl (StepTo.append 4 rfl rfl rfl rfl rfl rfl rfl rfl rfl rfl rfl rfl (by first | exact CellsAt.boxAll 0 rfl | exact CellsAt.boxAll 1 rfl | exact CellsAt.boxAll 2 rfl | exact CellsAt.boxAll 3 rfl | exact CellsAt.boxAll 4 rfl) rfl rfl (by omega) (fun _ _ => ⟨_, setQ, ?_⟩)) | refine WL.step rfl (StepTo.append 5 rfl rfl rfl rfl rfl rfl rfl rfl rfl rfl rfl rfl (by first | exact CellsAt.boxAll 0 rfl | exact CellsAt.boxAll 1 rfl | exact CellsAt.boxAll 2 rfl | exact CellsAt.boxAll 3 rfl | exact CellsAt.boxAll 4 rfl) rfl rfl (by omega) (fun _ _ => ⟨_, setQ, ?_⟩)) | refine WL.step rfl (StepTo.append 6 rfl rfl rfl rfl rfl rfl rfl rfl rfl rfl rfl rfl (by first | exact CellsAt.boxAll 0 rfl | exact CellsAt.boxAll 1 rfl | exact CellsAt.boxAll 2 rfl | exact CellsAt.boxAll 3 rfl | exact CellsAt.boxAll 4 rfl) rfl rfl (by omega) (fun _ _ => ⟨_, setQ, ?_⟩)))
    | ((with_reducible refine WL.isN_bslice ?_); first | refine WL.step rfl (StepTo.buildSlice rfl rfl rfl rfl rfl rfl rfl rfl rfl rfl cellsOfQ (fun _ => ?_)))
    | with_reducible refine WC.block ?_
    | (refine WC.cond rfl (fun hc => ?_) (fun hc => ?_) <;> (try first | (with_reducible replace hc := of_decide_eq_true hc) | (with_reducible replace hc := of_decide_eq_false hc) | (with_reducible replace hc := eqT hc) | (with_reducible replace hc := eqF hc) | (with_reducible replace hc := neT hc) | (with_reducible replace hc := neF hc) | (with_reducible replace hc := noT hc) | (with_reducible replace hc := noF hc)) <;> (try (exfalso; omega))))
    exact WQ.body (Reads.tmp rfl rfl) fun w' hw' => ⟨rfl, hw'.ext.below⟩
/-- What bytes are worth, of the document. -/
theorem value_q (l : List UInt8) (hl : l.length ≤ 1000000) (w : World) : Calls Try.prog 34 #[.string (bs l)] w
    fun e w' => e = .returned (.int .i64 (Ck.w64 (Ck.val l))) ∧ Below w.heap.size w w' := by
  refine enterW (fun _ => False) _ Try.func34 rfl (by simp only [Try.ntmps34, List.length_cons, List.length_nil, Nat.reduceAdd, Nat.reduceSub]; rfl) ?_
  repeat' (first
    | refine goS ?_
    | ((with_reducible refine WL.isN_bin ?_); first | refine WL.yld rfl binQ ?_)
    | ((with_reducible refine WL.isN_conv ?_); first | refine WL.yld rfl convQ ?_)
    | ((with_reducible refine WL.isN_call ?_); first | refine WL.yld rfl lenQ ?_)
    | ((with_reducible refine WL.isN_index ?_); first | refine WL.yld rfl (Yld.indexStr _ rfl rfl rfl rfl rfl (by assumption)) ?_)
    | with_reducible refine WC.block ?_
    | (refine WC.cond rfl (fun hc => ?_) (fun hc => ?_) <;> (try first | (with_reducible replace hc := of_decide_eq_true hc) | (with_reducible replace hc := of_decide_eq_false hc) | (with_reducible replace hc := eqT hc) | (with_reducible replace hc := eqF hc) | (with_reducible replace hc := neT hc) | (with_reducible replace hc := neF hc) | (with_reducible replace hc := noT hc) | (with_reducible replace hc := noF hc)) <;> (try (exfalso; omega))))
  refine WC.loop (fun mm τ H => ∃ (i : Nat) (V : Int), V = Ck.w64 (Ck.val (l.take i)) ∧ i ≤ l.length ∧ mm = l.length - i ∧ τ = [(0, .string (bs l)), (3, .int .i64 V), (4, .int .i64 (i : Nat))] ∧ H = []) l.length _ _ [] ?_ ?_ ⟨0, 0, by rw [List.take_zero]; rfl, by omega, rfl, rfl, rfl⟩ ?_
  · exact (by repeat (first | exact Sub.nil | refine Sub.cons rfl ?_ | refine Sub.consE rfl (int_eq (by omega)) ?_))
  · exact ⟨by decide, rfl⟩
  rintro mm τ H ⟨i, V, hV, hi, rfl, rfl, rfl⟩
  by_cases hil : i < l.length
  · obtain ⟨c, hc⟩ : ∃ c, l[i]? = some c := ⟨_, List.getElem?_eq_getElem hil⟩
    have hnx : Ck.val (l.take (i + 1)) = Ck.val (l.take i) * 256 + c.toNat := by
      rw [← Ck.val_snoc]
      congr 1
      rw [List.take_add_one, hc]
      rfl
    have hcb := b_lt c
    have e1 := shl64 (Ck.val (l.take i))
    have e2 := or64 (Ck.val (l.take i)) c
    rw [← hnx] at e2
    rw [← hV] at e1
    obtain ⟨V3, hV3⟩ : ∃ V3, V3 = Ck.w64 (Ck.val (l.take (i + 1))) := ⟨_, rfl⟩
    rw [← hV3] at e2
    generalize Ck.w64 (Ck.val (l.take i) * 256) = V2 at *
    clear hnx hV
    repeat' (first
    | refine goS ?_
    | ((with_reducible refine WL.isN_bin ?_); first | refine WL.yld rfl (Yld.shlE 8 rfl rfl rfl rfl (by decide) e1) ?_ | refine WL.yld rfl (Yld.pure rfl e2) ?_ | refine WL.yld rfl binQ ?_)
    | ((with_reducible refine WL.isN_conv ?_); first | refine WL.yld rfl convQ ?_)
    | ((with_reducible refine WL.isN_call ?_); first | refine WL.yld rfl (Yld.lenB rfl rfl rfl) ?_ | refine WL.yld rfl lenQ ?_)
    | ((with_reducible refine WL.isN_index ?_); first | refine WL.yld rfl (Yld.indexB i rfl rfl rfl rfl rfl hc) ?_ | refine WL.yld rfl (Yld.indexStr _ rfl rfl rfl rfl rfl (by assumption)) ?_)
    | with_reducible refine WC.block ?_
    | (refine WC.cond rfl (fun hc => ?_) (fun hc => ?_) <;> (try first | (with_reducible replace hc := of_decide_eq_true hc) | (with_reducible replace hc := of_decide_eq_false hc) | (with_reducible replace hc := eqT hc) | (with_reducible replace hc := eqF hc) | (with_reducible replace hc := neT hc) | (with_reducible replace hc := neF hc) | (with_reducible replace hc := noT hc) | (with_reducible replace hc := noF hc)) <;> (try (exfalso; omega))))
    exact WQ.rnd (l.length - (i + 1)) _ _ [] (by repeat (first | exact Sub.nil | refine Sub.cons rfl ?_ | refine Sub.consE rfl (int_eq (by omega)) ?_)) ⟨by decide, rfl⟩ (by omega) ⟨i + 1, V3, hV3, by omega, rfl, rfl, rfl⟩
  · obtain rfl : i = l.length := by omega
    rw [List.take_length] at hV
    rw [← hV]
    clear hV
    repeat' (first
    | refine goS ?_
    | ((with_reducible refine WL.isN_bin ?_); first | refine WL.yld rfl binQ ?_)
    | ((with_reducible refine WL.isN_conv ?_); first | refine WL.yld rfl convQ ?_)
    | ((with_reducible refine WL.isN_call ?_); first | refine WL.yld rfl (Yld.lenB rfl rfl rfl) ?_ | refine WL.yld rfl lenQ ?_)
    | ((with_reducible refine WL.isN_index ?_); first | refine WL.yld rfl (Yld.indexStr _ rfl rfl rfl rfl rfl (by assumption)) ?_)
    | with_reducible refine WC.block ?_
    | (refine WC.cond rfl (fun hc => ?_) (fun hc => ?_) <;> (try first | (with_reducible replace hc := of_decide_eq_true hc) | (with_reducible replace hc := of_decide_eq_false hc) | (with_reducible replace hc := eqT hc) | (with_reducible replace hc := eqF hc) | (with_reducible replace hc := neT hc) | (with_reducible replace hc := neF hc) | (with_reducible replace hc := noT hc) | (with_reducible replace hc := noF hc)) <;> (try (exfalso; omega))))
    exact WQ.body (Reads.tmp rfl rfl) fun w' hw' => ⟨rfl, hw'.ext.below⟩
end Go.Proofs.Ytheilikelcgdmaa
