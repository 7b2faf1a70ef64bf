/- Keys are turned; what is small; how a state that came in is read. -/
import Derived.Test.YtheilikelcgdmaaCkN
import Derived.Test.YtheilikelcgdmaaOpn
namespace Go.Proofs.Ytheilikelcgdmaa
open Go.RowKit Go.IntWalk
set_option linter.unusedVariables false
set_option linter.unusedSectionVars false
set_option maxRecDepth 100000

section
open Go.ChangeShapes Go.WideShapes Go.ChangeAt Go.Deep
theorem nat_wf {k : IntKind} {m : Int} (x : Int) (h : (Lit.int k x).wf = true) (hk : k.min = 0) (hm : k.max = m) : ∃ y : Nat, x = y ∧ (y : Int) ≤ m := by
  simp only [Lit.wf, Bool.and_eq_true, decide_eq_true_eq, hk, hm] at h
  exact ⟨x.toNat, by omega, by omega⟩
variable {H : Type} {enc : TypeId × Value → H} {w : World} {base : Nat} {spare : Nat → Bool} {held : Bool}
theorem st_trods {n : Nat} {c0 c1 c2 c3 c4 c5 c6 c7 c8 c9 c10 c11 c12 c13 : Value} {y0 y1 y2 y3 y4 y5 y6 y7 y8 y9 y10 y11 y12 y13 : DataW H × List MemPlace}
    (t0 : DataW.trod enc Try.prog w base spare held n 22 [c0] = some y0)
    (t1 : DataW.trod enc Try.prog w base spare held n 22 [c1] = some y1)
    (t2 : DataW.trod enc Try.prog w base spare held n 22 [c2] = some y2)
    (t3 : DataW.trod enc Try.prog w base spare held n 22 [c3] = some y3)
    (t4 : DataW.trod enc Try.prog w base spare held n 22 [c4] = some y4)
    (t5 : DataW.trod enc Try.prog w base spare held n 22 [c5] = some y5)
    (t6 : DataW.trod enc Try.prog w base spare held n 22 [c6] = some y6)
    (t7 : DataW.trod enc Try.prog w base spare held n 23 [c7] = some y7)
    (t8 : DataW.trod enc Try.prog w base spare held n 23 [c8] = some y8)
    (t9 : DataW.trod enc Try.prog w base spare held n 23 [c9] = some y9)
    (t10 : DataW.trod enc Try.prog w base spare held n 23 [c10] = some y10)
    (t11 : DataW.trod enc Try.prog w base spare held n 9 [c11] = some y11)
    (t12 : DataW.trod enc Try.prog w base spare held n 3 [c12] = some y12)
    (t13 : DataW.trod enc Try.prog w base spare held n 3 [c13] = some y13)
    : ∃ s : Ck.St, [c0, c1, c2, c3, c4, c5, c6, c7, c8, c9, c10, c11, c12, c13] = s.cs ∧ s.Ok ∧ s.peer.length ≤ maxLen ∧ (-9223372036854775808 ≤ s.made ∧ s.made ≤ 9223372036854775807) ∧ (-9223372036854775808 ≤ s.life ∧ s.life ≤ 9223372036854775807) := by
  obtain ⟨a0, f0, _, w0⟩ := DataW.trod_int Try.underlying22 t0
  obtain ⟨a1, f1, _, w1⟩ := DataW.trod_int Try.underlying22 t1
  obtain ⟨a2, f2, _, w2⟩ := DataW.trod_int Try.underlying22 t2
  obtain ⟨a3, f3, _, w3⟩ := DataW.trod_int Try.underlying22 t3
  obtain ⟨a4, f4, _, w4⟩ := DataW.trod_int Try.underlying22 t4
  obtain ⟨a5, f5, _, w5⟩ := DataW.trod_int Try.underlying22 t5
  obtain ⟨a6, f6, _, w6⟩ := DataW.trod_int Try.underlying22 t6
  obtain ⟨a7, f7, _, w7⟩ := DataW.trod_int Try.underlying23 t7
  obtain ⟨a8, f8, _, w8⟩ := DataW.trod_int Try.underlying23 t8
  obtain ⟨a9, f9, _, w9⟩ := DataW.trod_int Try.underlying23 t9
  obtain ⟨a10, f10, _, w10⟩ := DataW.trod_int Try.underlying23 t10
  obtain ⟨a11, f11, _, w11⟩ := DataW.trod_string Try.underlying9 t11
  obtain ⟨a12, f12, _, w12⟩ := DataW.trod_int Try.underlying3 t12
  obtain ⟨a13, f13, _, w13⟩ := DataW.trod_int Try.underlying3 t13
  simp only [List.cons.injEq, and_true] at f0 f1 f2 f3 f4 f5 f6 f7 f8 f9 f10 f11 f12 f13
  subst f0 f1 f2 f3 f4 f5 f6 f7 f8 f9 f10 f11 f12 f13
  obtain ⟨b0, rfl, g0⟩ := nat_wf (m := 4294967295) a0 w0 rfl rfl
  obtain ⟨b1, rfl, g1⟩ := nat_wf (m := 4294967295) a1 w1 rfl rfl
  obtain ⟨b2, rfl, g2⟩ := nat_wf (m := 4294967295) a2 w2 rfl rfl
  obtain ⟨b3, rfl, g3⟩ := nat_wf (m := 4294967295) a3 w3 rfl rfl
  obtain ⟨b4, rfl, g4⟩ := nat_wf (m := 4294967295) a4 w4 rfl rfl
  obtain ⟨b5, rfl, g5⟩ := nat_wf (m := 4294967295) a5 w5 rfl rfl
  obtain ⟨b6, rfl, g6⟩ := nat_wf (m := 4294967295) a6 w6 rfl rfl
  obtain ⟨b7, rfl, g7⟩ := nat_wf (m := 65535) a7 w7 rfl rfl
  obtain ⟨b8, rfl, g8⟩ := nat_wf (m := 65535) a8 w8 rfl rfl
  obtain ⟨b9, rfl, g9⟩ := nat_wf (m := 65535) a9 w9 rfl rfl
  obtain ⟨b10, rfl, g10⟩ := nat_wf (m := 65535) a10 w10 rfl rfl
  have g12 : -9223372036854775808 ≤ a12 ∧ a12 ≤ 9223372036854775807 := by simpa [Lit.wf, IntKind.min, IntKind.max, IntKind.bits, IntKind.signed] using w12
  have g13 : -9223372036854775808 ≤ a13 ∧ a13 ≤ 9223372036854775807 := by simpa [Lit.wf, IntKind.min, IntKind.max, IntKind.bits, IntKind.signed] using w13
  have k0 : b0 < 4294967296 := by omega
  have k1 : b1 < 4294967296 := by omega
  have k2 : b2 < 4294967296 := by omega
  have k3 : b3 < 4294967296 := by omega
  have k4 : b4 < 4294967296 := by omega
  have k5 : b5 < 4294967296 := by omega
  have k6 : b6 < 4294967296 := by omega
  have k7 : b7 < 65536 := by omega
  have k8 : b8 < 65536 := by omega
  have k9 : b9 < 65536 := by omega
  have k10 : b10 < 65536 := by omega
  exact ⟨⟨b0, b1, b2, b3, b4, b5, b6, b7, b8, b9, b10, a11.data.toList, a12, a13⟩, by rw [Ck.St.cs, bs_eta], ⟨k0, k1, k2, k3, k4, k5, k6, k7, k8, k9, k10⟩, w11, g12, g13⟩
theorem open_ckst {r : Reach} {b0 : Nat} {v : Value} {d : DataW H} {p : List MemPlace} (hv : Value.okWide Try.prog w r b0 25 v) (h : DataW.Trod enc Try.prog w base spare held 25 v d p) :
    ∃ s : Ck.St, v = .agg s.cs.toArray ∧ (s.Ok ∧ s.peer.length ≤ maxLen ∧ (-9223372036854775808 ≤ s.made ∧ s.made ≤ 9223372036854775807) ∧ (-9223372036854775808 ≤ s.life ∧ s.life ≤ 9223372036854775807)) := by
  obtain ⟨l, rfl, hl, n, hg⟩ := open_flat Try.underlying25 (by kernel_rfl) (by kernel_rfl) hv h
  match l, hl with
  | [c0, c1, c2, c3, c4, c5, c6, c7, c8, c9, c10, c11, c12, c13], _ =>
    obtain ⟨_, _, e0, t0⟩ := hg 0 _ rfl
    obtain ⟨_, _, e1, t1⟩ := hg 1 _ rfl
    obtain ⟨_, _, e2, t2⟩ := hg 2 _ rfl
    obtain ⟨_, _, e3, t3⟩ := hg 3 _ rfl
    obtain ⟨_, _, e4, t4⟩ := hg 4 _ rfl
    obtain ⟨_, _, e5, t5⟩ := hg 5 _ rfl
    obtain ⟨_, _, e6, t6⟩ := hg 6 _ rfl
    obtain ⟨_, _, e7, t7⟩ := hg 7 _ rfl
    obtain ⟨_, _, e8, t8⟩ := hg 8 _ rfl
    obtain ⟨_, _, e9, t9⟩ := hg 9 _ rfl
    obtain ⟨_, _, e10, t10⟩ := hg 10 _ rfl
    obtain ⟨_, _, e11, t11⟩ := hg 11 _ rfl
    obtain ⟨_, _, e12, t12⟩ := hg 12 _ rfl
    obtain ⟨_, _, e13, t13⟩ := hg 13 _ rfl
    simp at e0 e1 e2 e3 e4 e5 e6 e7 e8 e9 e10 e11 e12 e13
    subst e0 e1 e2 e3 e4 e5 e6 e7 e8 e9 e10 e11 e12 e13
    obtain ⟨s, hm, hw⟩ := st_trods t0 t1 t2 t3 t4 t5 t6 t7 t8 t9 t10 t11 t12 t13
    exact ⟨s, by rw [hm], hw⟩
end

section
variable {w0 : World} {D : Nat → Prop} {n : Nat} [Dfr] {Kq : Act → World → Prop} {τ : Tm} {H : List Item}
theorem WQ.ownRowD (i : Nat) {A : Option Addr} {m c t k : Nat} {xs : List Value} (hi : H[i]? = some (.row A m c t k xs)) (h : (∀ b, A.map (·.block) = some b → w0.heap.size ≤ b ∨ D b) → WQ w0 D n Kq τ H) : WQ w0 D n Kq τ H :=
  ⟨fun a w ha hw => (h fun b hb => hw.own _ (List.mem_of_getElem? hi) rfl b hb).go a w ha hw⟩
theorem Sat.toModV {w w' : World} {N : List Item} (h : Sat w D N w') (hv : ∀ it ∈ N, it.mine = false → ∀ b, it.blk = some b → w.heap.size ≤ b ∨ D b) : Mod D N w w' :=
  ⟨h.ext, fun it hit => ⟨h.holds it hit, fun b hb => by
    cases hm : it.mine with
    | true => exact h.own it hit hm b hb
    | false => exact hv it hit hm b hb⟩, h.apart⟩
end
theorem flat_kc (l : List (List UInt8)) : flat kc l = l.map fun k => .string (bs k) := by
  induction l with
  | nil => rfl
  | cons k l ih => rw [flat_cons, ih]; rfl
/-- Keys that are turned. -/
theorem kturn_w (gk : Nat) (A : Option Addr) (n cap : Nat) (since now : Int) (ks : List (List UInt8)) (key : List UInt8) (hA : okA A n) (hn : n ≤ 2) (hks : ks.length = n) (w : World)
    (hS : Sat w (Bs [.box gk 48 [.slice A n cap, .int .i64 since]]) [.box gk 48 [.slice A n cap, .int .i64 since], .vw A n 1 (flat kc ks)] w) :
    Calls Try.prog 20 #[.pointer (some ⟨gk, 0, none⟩), .string (bs key), .int .i64 now] w
      fun e w' => ∃ v N, e = .returned v ∧ (∃ A' n' c', v = .tuple #[] ∧ okA A' n' ∧ n' = ((key :: ks).take 2).length ∧ N = [.box gk 48 [.slice A' n' c', .int .i64 now], .vw A' n' 1 (flat kc ((key :: ks).take 2))]) ∧ Mod (Bs [.box gk 48 [.slice A n cap, .int .i64 since]]) N w w' := by
  refine enterM _ _ hS Try.func20 rfl (by simp only [Try.ntmps20, List.length_cons, List.length_nil, Nat.reduceAdd, Nat.reduceSub]; rfl) ?_
  repeat' (first
    | refine goS ?_
    | ((with_reducible refine WL.isN_load ?_); first | refine WL.yld rfl loadQ ?_)
    | ((with_reducible refine WL.isN_call ?_); first | refine WL.yld rfl lenQ ?_ | refine WL.step rfl (StepTo.append 0 rfl rfl rfl rfl rfl rfl rfl rfl rfl rfl rfl rfl (by first | exact CellsAt.boxAll 0 rfl | exact CellsAt.boxAll 1 rfl | exact CellsAt.boxAll 2 rfl | exact CellsAt.boxAll 3 rfl | exact CellsAt.boxAll 4 rfl) rfl rfl (by omega) (fun _ _ => ⟨_, setQ, ?_⟩)) | refine WL.step rfl (StepTo.append 1 rfl rfl rfl rfl rfl rfl rfl rfl rfl rfl rfl rfl (by first | exact CellsAt.boxAll 0 rfl | exact CellsAt.boxAll 1 rfl | exact CellsAt.boxAll 2 rfl | exact CellsAt.boxAll 3 rfl | exact CellsAt.boxAll 4 rfl) rfl rfl (by omega) (fun _ _ => ⟨_, setQ, ?_⟩)) | refine WL.step rfl (StepTo.append 2 rfl rfl rfl rfl rfl rfl rfl rfl rfl rfl rfl rfl (by first | exact CellsAt.boxAll 0 rfl | exact CellsAt.boxAll 1 rfl | exact CellsAt.boxAll 2 rfl | exact CellsAt.boxAll 3 rfl | exact CellsAt.boxAll 4 rfl) rfl rfl (by omega) (fun _ _ => ⟨_, setQ, ?_⟩)) | refine WL.step rfl (StepTo.append 3 rfl rfl rfl rfl rfl rfl rfl rfl rfl rfl rfl rfl (by first | exact CellsAt.boxAll 0 rfl | exact CellsAt.boxAll 1 rfl | exact CellsAt.boxAll 2 rfl | exact CellsAt.boxAll 3 rfl | exact CellsAt.boxAll 4 rfl) rfl rfl (by omega) (fun _ _ => ⟨_, setQ, ?_⟩)) | refine WL.step rfl (StepTo.append 4 rfl rfl rfl rfl rfl rfl rfl rfl rfl rfl rfl rfl (by first | exact CellsAt.boxAll 0 rfl | exact CellsAt.boxAll 1 rfl | exact CellsAt.boxAll 2 rfl | exact CellsAt.boxAll 3 rfl | exact CellsAt.boxAll 4 rfl) rfl rfl (by omega) (fun _ _ => ⟨_, setQ, ?_⟩)) | refine WL.step rfl (StepTo.append 5 rfl rfl rfl rfl rfl rfl rfl rfl rfl rfl rfl rfl (by first | exact CellsAt.boxAll 0 rfl | exact CellsAt.boxAll 1 rfl | exact CellsAt.boxAll 2 rfl | exact CellsAt.boxAll 3 rfl | exact CellsAt.boxAll 4 rfl) rfl rfl (by omega) (fun _ _ => ⟨_, setQ, ?_⟩)) | refine WL.step rfl (StepTo.append 6 rfl rfl rfl rfl rfl rfl rfl rfl rfl rfl rfl rfl (by first | exact CellsAt.boxAll 0 rfl | exact CellsAt.boxAll 1 rfl | exact CellsAt.boxAll 2 rfl | exact CellsAt.boxAll 3 rfl | exact CellsAt.boxAll 4 rfl) rfl rfl (by omega) (fun _ _ => ⟨_, setQ, ?_⟩)))
    | ((with_reducible refine WL.isN_store ?_); first | refine WL.step rfl (StepTo.st1 rfl rfl rfl rfl rfl rfl ?_) | refine WL.step rfl (StepTo.stA rfl rfl rfl rfl rfl rfl rfl ?_) | refine WL.step rfl (StepTo.stR rfl rfl rfl rfl rfl rfl rfl ?_))
    | ((with_reducible refine WL.isN_bslice ?_); first | refine WL.step rfl (StepTo.buildSlice rfl rfl rfl rfl rfl rfl rfl rfl rfl rfl cellsOfQ (fun _ => ?_)))
    | with_reducible refine WC.block ?_
    | (refine WC.cond rfl (fun hc => ?_) (fun hc => ?_) <;> (try first | (with_reducible replace hc := of_decide_eq_true hc) | (with_reducible replace hc := of_decide_eq_false hc) | (with_reducible replace hc := eqT hc) | (with_reducible replace hc := eqF hc) | (with_reducible replace hc := neT hc) | (with_reducible replace hc := neF hc) | (with_reducible replace hc := noT hc) | (with_reducible replace hc := noF hc)) <;> (try (exfalso; omega))))
  refine WL.boxRow 0 1 1 rfl rfl (by omega) ?_
  refine WL.step rfl (StepTo.appendVw (by_ := 16) 0 2 rfl rfl rfl rfl rfl rfl rfl hA rfl rfl rfl rfl rfl (by rw [flat_len kc_len, hks]) (flat_one kc_one ks) (by omega) (by omega) (fun A' c' => ⟨_, setQ, ?_⟩))
  rw [show ([.string (bs key)] : List Value) ++ flat kc ks = flat kc (key :: ks) from rfl]
  refine WL.capRow 0 rfl fun hcap => ?_
  refine WL.okRow 0 rfl fun hok => ?_
  obtain ⟨h, hh⟩ : ∃ h, h = ((key :: ks).take 2).length := ⟨_, rfl⟩
  have hh2 : h = min (1 + n) 2 := by rw [hh, List.length_take, List.length_cons, hks]; omega
  repeat' (first
    | refine goS ?_
    | ((with_reducible refine WL.isN_load ?_); first | refine WL.yld rfl loadQ ?_)
    | ((with_reducible refine WL.isN_call ?_); first | refine WL.yld rfl (Yld.as (Yld.minI rfl rfl rfl) (int_eq (show min (((1 + n : Nat)) : Int) 2 = (h : Int) by omega))) ?_ | refine WL.yld rfl lenQ ?_ | refine WL.step rfl (StepTo.append 0 rfl rfl rfl rfl rfl rfl rfl rfl rfl rfl rfl rfl (by first | exact CellsAt.boxAll 0 rfl | exact CellsAt.boxAll 1 rfl | exact CellsAt.boxAll 2 rfl | exact CellsAt.boxAll 3 rfl | exact CellsAt.boxAll 4 rfl) rfl rfl (by omega) (fun _ _ => ⟨_, setQ, ?_⟩)) | refine WL.step rfl (StepTo.append 1 rfl rfl rfl rfl rfl rfl rfl rfl rfl rfl rfl rfl (by first | exact CellsAt.boxAll 0 rfl | exact CellsAt.boxAll 1 rfl | exact CellsAt.boxAll 2 rfl | exact CellsAt.boxAll 3 rfl | exact CellsAt.boxAll 4 rfl) rfl rfl (by omega) (fun _ _ => ⟨_, setQ, ?_⟩)) | refine WL.step rfl (StepTo.append 2 rfl rfl rfl rfl rfl rfl rfl rfl rfl rfl rfl rfl (by first | exact CellsAt.boxAll 0 rfl | exact CellsAt.boxAll 1 rfl | exact CellsAt.boxAll 2 rfl | exact CellsAt.boxAll 3 rfl | exact CellsAt.boxAll 4 rfl) rfl rfl (by omega) (fun _ _ => ⟨_, setQ, ?_⟩)) | refine WL.step rfl (StepTo.append 3 rfl rfl rfl rfl rfl rfl rfl rfl rfl rfl rfl rfl (by first | exact CellsAt.boxAll 0 rfl | exact CellsAt.boxAll 1 rfl | exact CellsAt.boxAll 2 rfl | exact CellsAt.boxAll 3 rfl | exact CellsAt.boxAll 4 rfl) rfl rfl (by omega) (fun _ _ => ⟨_, setQ, ?_⟩)) | refine WL.step rfl (StepTo.append 4 rfl rfl rfl rfl rfl rfl rfl rfl rfl rfl rfl rfl (by first | exact CellsAt.boxAll 0 rfl | exact CellsAt.boxAll 1 rfl | exact CellsAt.boxAll 2 rfl | exact CellsAt.boxAll 3 rfl | exact CellsAt.boxAll 4 rfl) rfl rfl (by omega) (fun _ _ => ⟨_, setQ, ?_⟩)) | refine WL.step rfl (StepTo.append 5 rfl rfl rfl rfl rfl rfl rfl rfl rfl rfl rfl rfl (by first | exact CellsAt.boxAll 0 rfl | exact CellsAt.boxAll 1 rfl | exact CellsAt.boxAll 2 rfl | exact CellsAt.boxAll 3 rfl | exact CellsAt.boxAll 4 rfl) rfl rfl (by omega) (fun _ _ => ⟨_, setQ, ?_⟩)) | refine WL.step rfl (StepTo.append 6 rfl rfl rfl rfl rfl rfl rfl rfl rfl rfl rfl rfl (by first | exact CellsAt.boxAll 0 rfl | exact CellsAt.boxAll 1 rfl | exact CellsAt.boxAll 2 rfl | exact CellsAt.boxAll 3 rfl | exact CellsAt.boxAll 4 rfl) rfl rfl (by omega) (fun _ _ => ⟨_, setQ, ?_⟩)))
    | ((with_reducible refine WL.isN_store ?_); first | refine WL.step rfl (StepTo.st1 rfl rfl rfl rfl rfl rfl ?_) | refine WL.step rfl (StepTo.stA rfl rfl rfl rfl rfl rfl rfl ?_) | refine WL.step rfl (StepTo.stR rfl rfl rfl rfl rfl rfl rfl ?_))
    | ((with_reducible refine WL.isN_bslice ?_); first | refine WL.step rfl (StepTo.buildSlice rfl rfl rfl rfl rfl rfl rfl rfl rfl rfl cellsOfQ (fun _ => ?_)))
    | refine WL.yld rfl (Yld.sliceHi (h := h) rfl rfl rfl rfl rfl rfl (by omega)) ?_
    | with_reducible refine WC.block ?_
    | (refine WC.cond rfl (fun hc => ?_) (fun hc => ?_) <;> (try first | (with_reducible replace hc := of_decide_eq_true hc) | (with_reducible replace hc := of_decide_eq_false hc) | (with_reducible replace hc := eqT hc) | (with_reducible replace hc := eqF hc) | (with_reducible replace hc := neT hc) | (with_reducible replace hc := neF hc) | (with_reducible replace hc := noT hc) | (with_reducible replace hc := noF hc)) <;> (try (exfalso; omega))))
  refine WQ.ownRowD 0 rfl fun hown => ?_
  refine WQ.rowVw 0 rfl (by omega) ?_
  refine WQ.vwCut 0 rfl 0 h c' A' (flat kc ((key :: ks).take 2)) (by omega) (by omega) cutA_zero (by rw [Nat.zero_mul, List.drop_zero, Nat.mul_one, flat_kc, flat_kc, hh]; simp) ?_
  exact WQ.bodyN (Reads.none rfl) fun w' hw' => ⟨_, _, rfl, ⟨A', h, c', rfl, okA_less hok (by omega), hh, rfl⟩, (hw'.pick (idx := [2, 0]) ⟨by decide, rfl⟩).toModV fun it hit hm b hb => by
    simp only [List.mem_cons, List.not_mem_nil, or_false] at hit
    rcases hit with rfl | rfl
    · cases hm
    · exact hown b (vw_blk hb)⟩
theorem rkturn_w (gk many : Nat) (new old : List UInt8) (since now : Int) (key : List UInt8) (hm : many ≤ 1000000000) (w : World)
    (hS : Sat w (Bs [.box gk 51 [.string (bs new), .string (bs old), .int .i64 many, .int .i64 since]]) [.box gk 51 [.string (bs new), .string (bs old), .int .i64 many, .int .i64 since]] w) :
    Calls Try.prog 21 #[.pointer (some ⟨gk, 0, none⟩), .string (bs key), .int .i64 now] w
      fun e w' => ∃ v N, e = .returned v ∧ (v = .tuple #[] ∧ N = [.box gk 51 [.string (bs key), .string (bs new), .int .i64 (many + 1 : Nat), .int .i64 now]]) ∧ Mod (Bs [.box gk 51 [.string (bs new), .string (bs old), .int .i64 many, .int .i64 since]]) N w w' := by
  refine enterM _ _ hS Try.func21 rfl (by simp only [Try.ntmps21, List.length_cons, List.length_nil, Nat.reduceAdd, Nat.reduceSub]; rfl) ?_
  have e1 : Value.int .i64 ((many : Int) + 1) = .int .i64 (many + 1 : Nat) := int_eq (by omega)
  repeat' (first
    | refine goS ?_
    | ((with_reducible refine WL.isN_bin ?_); first | refine WL.yld rfl (Yld.as (Yld.pure rfl (nI64 (by omega))) e1) ?_ | refine WL.yld rfl binQ ?_)
    | ((with_reducible refine WL.isN_load ?_); first | refine WL.yld rfl loadQ ?_)
    | ((with_reducible refine WL.isN_store ?_); first | refine WL.step rfl (StepTo.st1 rfl rfl rfl rfl rfl rfl ?_) | refine WL.step rfl (StepTo.stA rfl rfl rfl rfl rfl rfl rfl ?_) | refine WL.step rfl (StepTo.stR rfl rfl rfl rfl rfl rfl rfl ?_))
    | with_reducible refine WC.block ?_
    | (refine WC.cond rfl (fun hc => ?_) (fun hc => ?_) <;> (try first | (with_reducible replace hc := of_decide_eq_true hc) | (with_reducible replace hc := of_decide_eq_false hc) | (with_reducible replace hc := eqT hc) | (with_reducible replace hc := eqF hc) | (with_reducible replace hc := neT hc) | (with_reducible replace hc := neF hc) | (with_reducible replace hc := noT hc) | (with_reducible replace hc := noF hc)) <;> (try (exfalso; omega))))
  exact WQ.bodyN (Reads.none rfl) fun w' hw' => ⟨_, _, rfl, ⟨rfl, rfl⟩, hw'.toMod (by simp [Item.mine])⟩

/-! ### What is small -/
theorem as_q (s : Ck.St) (w : World) : Calls Try.prog 13 #[.agg s.cs.toArray] w fun e w' => e = .returned (.agg s.cs.toArray) ∧ Below w.heap.size w w' := by
  refine enterW (fun _ => False) _ Try.func13 rfl (by simp only [Try.ntmps13, List.length_cons, List.length_nil, Nat.reduceAdd, Nat.reduceSub]; rfl) ?_
  repeat' (first
    | refine goS ?_
    | ((with_reducible refine WL.isN_load ?_); first | refine WL.yld rfl loadQ ?_)
    | ((with_reducible refine WL.isN_build ?_); first | refine WL.yld rfl (Yld.build (cells := s.cs.toArray) rfl rfl (by kernel_rfl)) ?_ | refine WL.yld rfl buildQ ?_)
    | ((with_reducible refine WL.isN_box ?_); first | refine WL.step rfl (StepTo.boxA rfl rfl rfl rfl (fun _ => ?_)) | refine WL.step rfl (StepTo.box1 rfl rfl rfl rfl rfl (fun _ => ?_)))
    | ((with_reducible refine WL.isN_alloc ?_); first | refine WL.step rfl (StepTo.allocA rfl rfl rfl rfl (fun _ => ?_)) | refine WL.step rfl (StepTo.alloc1 rfl rfl rfl rfl rfl (fun _ => ?_)))
    | ((with_reducible refine WL.isN_store ?_); first | refine WL.step rfl (StepTo.st1 rfl rfl rfl rfl rfl rfl ?_) | refine WL.step rfl (StepTo.stA rfl rfl rfl rfl rfl rfl rfl ?_) | refine WL.step rfl (StepTo.stR rfl rfl rfl rfl rfl rfl rfl ?_))
    | with_reducible refine WC.block ?_
    | (refine WC.cond rfl (fun hc => ?_) (fun hc => ?_) <;> (try first | (with_reducible replace hc := of_decide_eq_true hc) | (with_reducible replace hc := of_decide_eq_false hc) | (with_reducible replace hc := eqT hc) | (with_reducible replace hc := eqF hc) | (with_reducible replace hc := neT hc) | (with_reducible replace hc := neF hc) | (with_reducible replace hc := noT hc) | (with_reducible replace hc := noF hc)) <;> (try (exfalso; omega))))
  exact WQ.body (Reads.one rfl (Res1.cellA rfl rfl rfl rfl (AggAt.box 0 rfl rfl))) fun w' hw' => ⟨rfl, hw'.ext.below⟩
theorem short_q (s : Ck.St) (hp : s.peer.length ≤ maxLen) (w : World) : Calls Try.prog 10 #[.agg s.cs.toArray] w fun e w' => e = .returned (.bool (decide (s.peer.length ≤ 300))) ∧ Below w.heap.size w w' := by
  have e : decide (s.peer.length ≤ 300) = decide ((s.peer.length : Int) ≤ 300) := by
    by_cases h : s.peer.length ≤ 300
    · rw [decide_eq_true h, decide_eq_true (by omega)]
    · rw [decide_eq_false h, decide_eq_false (by omega)]
  rw [e]
  refine enterW (fun _ => False) _ Try.func10 rfl (by simp only [Try.ntmps10, List.length_cons, List.length_nil, Nat.reduceAdd, Nat.reduceSub]; rfl) ?_
  repeat' (first
    | refine goS ?_
    | ((with_reducible refine WL.isN_bin ?_); first | refine WL.yld rfl binQ ?_)
    | ((with_reducible refine WL.isN_load ?_); first | refine WL.yld rfl loadQ ?_)
    | ((with_reducible refine WL.isN_call ?_); first | refine WL.yld rfl (Yld.lenB rfl rfl rfl) ?_ | refine WL.yld rfl lenQ ?_)
    | ((with_reducible refine WL.isN_box ?_); first | refine WL.step rfl (StepTo.boxA rfl rfl rfl rfl (fun _ => ?_)) | refine WL.step rfl (StepTo.box1 rfl rfl rfl rfl rfl (fun _ => ?_)))
    | with_reducible refine WC.block ?_
    | (refine WC.cond rfl (fun hc => ?_) (fun hc => ?_) <;> (try first | (with_reducible replace hc := of_decide_eq_true hc) | (with_reducible replace hc := of_decide_eq_false hc) | (with_reducible replace hc := eqT hc) | (with_reducible replace hc := eqF hc) | (with_reducible replace hc := neT hc) | (with_reducible replace hc := neF hc) | (with_reducible replace hc := noT hc) | (with_reducible replace hc := noF hc)) <;> (try (exfalso; omega))))
  exact WQ.body (Reads.tmp rfl rfl) fun w' hw' => ⟨rfl, hw'.ext.below⟩
def Ck.plain : Ck.St := ⟨1, 2, 0, 0, 0, 0, 0, 3, 4, 5, 6, [97, 98, 99, 100], 100, 50⟩
theorem plain_q (w : World) : Calls Try.prog 26 #[] w fun e w' => e = .returned (.agg Ck.plain.cs.toArray) ∧ Below w.heap.size w w' := by
  refine enterW (fun _ => False) _ Try.func26 rfl (by simp only [Try.ntmps26, List.length_cons, List.length_nil, Nat.reduceAdd, Nat.reduceSub]; rfl) ?_
  repeat' (first
    | refine goS ?_
    | ((with_reducible refine WL.isN_build ?_); first | refine WL.yld rfl (Yld.build (cells := Ck.plain.cs.toArray) rfl rfl (by kernel_rfl)) ?_ | refine WL.yld rfl buildQ ?_)
    | ((with_reducible refine WL.isN_alloc ?_); first | refine WL.step rfl (StepTo.allocA rfl rfl rfl rfl (fun _ => ?_)) | refine WL.step rfl (StepTo.alloc1 rfl rfl rfl rfl rfl (fun _ => ?_)))
    | ((with_reducible refine WL.isN_store ?_); first | refine WL.step rfl (StepTo.st1 rfl rfl rfl rfl rfl rfl ?_) | refine WL.step rfl (StepTo.stA rfl rfl rfl rfl rfl rfl rfl ?_) | refine WL.step rfl (StepTo.stR rfl rfl rfl rfl rfl rfl rfl ?_))
    | with_reducible refine WC.block ?_
    | (refine WC.cond rfl (fun hc => ?_) (fun hc => ?_) <;> (try first | (with_reducible replace hc := of_decide_eq_true hc) | (with_reducible replace hc := of_decide_eq_false hc) | (with_reducible replace hc := eqT hc) | (with_reducible replace hc := eqF hc) | (with_reducible replace hc := neT hc) | (with_reducible replace hc := neF hc) | (with_reducible replace hc := noT hc) | (with_reducible replace hc := noF hc)) <;> (try (exfalso; omega))))
  exact WQ.body (Reads.one rfl (Res1.cellA rfl rfl rfl rfl (AggAt.box 0 rfl rfl))) fun w' hw' => ⟨rfl, hw'.ext.below⟩
end Go.Proofs.Ytheilikelcgdmaa
