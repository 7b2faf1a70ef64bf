/- The law GotOrders. -/
import Derived.Test.YthbhjnmkbmmcnaaGtX
namespace Go.Proofs.Ythbhjnmkbmmcnaa
open Go.RowKit Go.IntWalk
set_option linter.unusedVariables false
set_option linter.unusedSimpArgs false
set_option linter.unusedSectionVars false
set_option maxRecDepth 100000

namespace Gt
theorem Pl.take {first : Int} {S : List Nat} {cnt : Nat} {g : G} (h : Pl first S cnt g) {a : Nat} (ha : a < 64) (hd : g.du.length < 100) : ∃ S' cnt', Pl first S' cnt' (Gt.take g (up first a)).1 ∧ (∀ b, b ∈ S' ↔ b ∈ S ∨ b = a) ∧ (Gt.take g (up first a)).1.du.length + S'.length = g.du.length + S.length + 1 := by
  by_cases hm : a ∈ S
  · obtain ⟨_, h2, h3⟩ := h.old ha hm
    refine ⟨S, cnt, h2, fun b => ⟨.inl, fun hb => hb.elim id fun e => e ▸ hm⟩, ?_⟩
    rw [h3, if_pos hd, List.length_append]
    simp
    omega
  · obtain ⟨_, ⟨cnt', h2⟩, h3⟩ := h.new ha hm
    refine ⟨S ++ [a], cnt', h2, fun b => by simp, ?_⟩
    rw [h3, List.length_append]
    simp
    omega
theorem idx_all {n kk j : Nat} (hk : kk < n) (hj : j < n) : ∃ i, i < n ∧ (n - 1 - i + kk) % n = j := by
  by_cases h : kk ≤ j
  · refine ⟨n - 1 + kk - j, by omega, ?_⟩
    rw [show n - 1 - (n - 1 + kk - j) + kk = j by omega]
    exact Nat.mod_eq_of_lt hj
  · refine ⟨kk - j - 1, by omega, ?_⟩
    rw [show n - 1 - (kk - j - 1) + kk = j + n by omega, Nat.add_mod_right]
    exact Nat.mod_eq_of_lt hj
end Gt
theorem Yld.remT {P : Program} {w0 : World} {D : Nat → Prop} {n : Nat} [Dfr] {τ : Tm} {H : List Item} {o : Oper} {T u : Nat} {x y : Operand} {k k' : IntKind} {p q : Int} (ho : o.op = .binOp .rem T x y u) (hx : evl τ x = some (.int k p)) (hy : evl τ y = some (.int k' q)) (hk : k = k') (hq : 0 < q) : Yld P w0 D n o τ H (.int k (p.tmod q)) :=
  ⟨fun a w h hw => by
    subst hk
    have hq' : ¬ q = 0 := by omega
    simp [execOp, ho, h.ev hx, h.ev hy, eqGuard, binOp, Op.intDiv, hq']⟩
theorem tmod_lt (x : Int) {q : Nat} (hq : 0 < q) : -(q : Int) < x.tmod q ∧ x.tmod q < q := by
  have h1 := Int.tmod_lt_of_pos x (show (0 : Int) < q by omega)
  have h2 : -(q : Int) < x.tmod q := by
    have := Int.tmod_lt_of_pos (-x) (show (0 : Int) < q by omega)
    rw [Int.neg_tmod] at this
    omega
  exact ⟨h2, h1⟩
set_option maxHeartbeats 16000000 in
theorem gotOrders_walk (first : Int) (A : Option Addr) (n k : Nat) (xs : List Int) (turn : Int) (w : World) (w0 : (Lit.int .u32 first).wf = true) (hL : Lst (ic .u32) 1 w w.heap.size A n xs) (hA : okA A n) (hnk : n ≤ k) (hx : ∀ a ∈ xs, U32 a) (_w2 : (Lit.int .i64 turn).wf = true) :
    Calls Try.prog 5 #[.int .u32 first, .slice A n k, .int .i64 turn] w fun e w' => e = .returned (.bool true) ∧ Below w.heap.size w w' := by
  have hl := hL.len
  have hnm := hL.most
  unfold maxLen at hnm
  by_cases h60 : 60 < n
  · refine enterW (fun _ => False) _ Try.func5 rfl (by simp only [Try.ntmps5, List.length_cons, List.length_nil, Nat.reduceAdd, Nat.reduceSub]; rfl) ?_
    repeat' (first
    | refine goS ?_
    | ((with_reducible refine WL.isN_bin ?_); first | refine WL.yld rfl binQ ?_)
    | ((with_reducible refine WL.isN_load ?_); first | refine WL.yld rfl loadQ ?_)
    | ((with_reducible refine WL.isN_iaddr ?_); first | refine WL.yld rfl iaddrQ ?_)
    | ((with_reducible refine WL.isN_call ?_); first | refine WL.step rfl (StepTo.callV (v := .bool true) (us := []) rfl rfl rfl rfl rfl (by kernel_rfl) (fun w hw => gshown_q w) ?_) | refine WL.yld rfl lenQ ?_)
    | ((with_reducible refine WL.isN_alloc ?_); first | refine WL.step rfl (StepTo.allocA rfl rfl rfl rfl (fun _ => ?_)) | refine WL.step rfl (StepTo.alloc1 rfl rfl rfl rfl rfl (fun _ => ?_)))
    | ((with_reducible refine WL.isN_store ?_); first | refine WL.step rfl (StepTo.st1 rfl rfl rfl rfl rfl rfl ?_) | refine WL.step rfl (StepTo.stA rfl rfl rfl rfl rfl rfl rfl ?_) | refine WL.step rfl (StepTo.stR rfl rfl rfl rfl rfl rfl rfl ?_))
    | with_reducible refine WC.block ?_
    | (refine WC.cond rfl (fun hc => ?_) (fun hc => ?_) <;> (try first | (with_reducible replace hc := of_decide_eq_true hc) | (with_reducible replace hc := of_decide_eq_false hc) | (with_reducible replace hc := eqT hc) | (with_reducible replace hc := eqF hc) | (with_reducible replace hc := neT hc) | (with_reducible replace hc := neF hc) | (with_reducible replace hc := noT hc) | (with_reducible replace hc := noF hc)) <;> (try (exfalso; omega))))
    exact WQ.body (Reads.tmp rfl rfl) fun w' hw' => ⟨rfl, hw'.ext.below⟩
  by_cases hn0 : n = 0
  · subst hn0
    refine enterW (fun _ => False) _ Try.func5 rfl (by simp only [Try.ntmps5, List.length_cons, List.length_nil, Nat.reduceAdd, Nat.reduceSub]; rfl) ?_
    repeat' (first
    | refine goS ?_
    | ((with_reducible refine WL.isN_bin ?_); first | refine WL.yld rfl binQ ?_)
    | ((with_reducible refine WL.isN_load ?_); first | refine WL.yld rfl loadQ ?_)
    | ((with_reducible refine WL.isN_iaddr ?_); first | refine WL.yld rfl iaddrQ ?_)
    | ((with_reducible refine WL.isN_call ?_); first | refine WL.step rfl (StepTo.callV (v := .bool true) (us := []) rfl rfl rfl rfl rfl (by kernel_rfl) (fun w hw => gshown_q w) ?_) | refine WL.yld rfl lenQ ?_)
    | ((with_reducible refine WL.isN_alloc ?_); first | refine WL.step rfl (StepTo.allocA rfl rfl rfl rfl (fun _ => ?_)) | refine WL.step rfl (StepTo.alloc1 rfl rfl rfl rfl rfl (fun _ => ?_)))
    | ((with_reducible refine WL.isN_store ?_); first | refine WL.step rfl (StepTo.st1 rfl rfl rfl rfl rfl rfl ?_) | refine WL.step rfl (StepTo.stA rfl rfl rfl rfl rfl rfl rfl ?_) | refine WL.step rfl (StepTo.stR rfl rfl rfl rfl rfl rfl rfl ?_))
    | with_reducible refine WC.block ?_
    | (refine WC.cond rfl (fun hc => ?_) (fun hc => ?_) <;> (try first | (with_reducible replace hc := of_decide_eq_true hc) | (with_reducible replace hc := of_decide_eq_false hc) | (with_reducible replace hc := eqT hc) | (with_reducible replace hc := eqF hc) | (with_reducible replace hc := neT hc) | (with_reducible replace hc := neF hc) | (with_reducible replace hc := noT hc) | (with_reducible replace hc := noF hc)) <;> (try (exfalso; omega))))
    exact WQ.body (Reads.tmp rfl rfl) fun w' hw' => ⟨rfl, hw'.ext.below⟩
  obtain ⟨hr1, hr2⟩ := tmod_lt turn (q := n) (by omega)
  generalize hre : turn.tmod n = r at hr1 hr2
  have hrem : Value.int .i64 (turn.tmod n) = .int .i64 r := by rw [hre]
  obtain ⟨kk, hkk⟩ : ∃ kk : Nat, kk = r.natAbs := ⟨_, rfl⟩
  have hmax : Value.int .i64 (max r (0 - r)) = .int .i64 (kk : Nat) := by congr 1; omega
  have hvb : ∀ (j : Nat), ∃ v : Nat, v = (xs.getD j 0 % 64).toNat := fun j => ⟨_, rfl⟩
  obtain ⟨v, hv⟩ : ∃ v : Nat → Nat, ∀ j, v j = (xs.getD j 0 % 64).toNat := ⟨fun j => (xs.getD j 0 % 64).toNat, fun j => rfl⟩
  have hget : ∀ j, j < n → ∃ x, xs[j]? = some x ∧ 0 ≤ x ∧ v j < 64 ∧ Value.int .u32 ((first + x % 64) % 4294967296) = .int .u32 (Gt.up first (v j)) := fun j hj => by
    have hxj : xs[j]? = some (xs[j]'(by omega)) := List.getElem?_eq_getElem (by omega)
    obtain ⟨hx0, hx1⟩ := hx _ (List.mem_of_getElem? hxj)
    have e : v j = (xs[j]'(by omega) % 64).toNat := by rw [hv, List.getD_eq_getElem?_getD, hxj]; rfl
    refine ⟨_, hxj, hx0, by omega, ?_⟩
    have e2 : ((v j : Nat) : Int) = xs[j]'(by omega) % 64 := by omega
    rw [← e2]
    rfl
  clear hv hvb
  refine enterW (fun _ => False) _ Try.func5 rfl (by simp only [Try.ntmps5, List.length_cons, List.length_nil, Nat.reduceAdd, Nat.reduceSub]; rfl) ?_
  refine WC.addVw (ic_len .u32) hL ?_
  refine WC.vwAt 0 rfl (by omega) fun b o hA => ?_
  subst hA
  refine WC.nilVw 1 ?_
  refine WC.nilVw 1 ?_
  refine WC.nilVw 1 ?_
  refine WC.nilVw 1 ?_
  repeat' (first
    | refine goS ?_
    | ((with_reducible refine WL.isN_bin ?_); first | refine WL.yld rfl (Yld.as (Yld.remT rfl rfl rfl rfl (by omega)) hrem) ?_ | refine WL.yld rfl binQ ?_)
    | ((with_reducible refine WK.isN_bin ?_); first | refine WK.yld rfl (Yld.as (Yld.remT rfl rfl rfl rfl (by omega)) hrem) ?_ | refine WK.yld rfl binQ ?_)
    | ((with_reducible refine WL.isN_load ?_); first | refine WL.yld rfl loadQ ?_)
    | ((with_reducible refine WK.isN_load ?_); first | refine WK.yld rfl loadQ ?_)
    | ((with_reducible refine WL.isN_iaddr ?_); first | refine WL.yld rfl iaddrQ ?_)
    | ((with_reducible refine WK.isN_iaddr ?_); first | refine WK.yld rfl iaddrQ ?_)
    | ((with_reducible refine WL.isN_call ?_); first | refine WL.step rfl (StepTo.callV (v := .bool true) (us := []) rfl rfl rfl rfl rfl (by kernel_rfl) (fun w hw => gshown_q w) ?_) | refine WL.step rfl (StepTo.callV (v := gv ((first - 1) % 4294967296) none 0 0 none 0 0) (us := [.int .u32 first]) rfl rfl rfl rfl rfl (by kernel_rfl) (fun w hw => new_q first w) ?_) | refine WK.yld rfl (Yld.as (Yld.maxI rfl rfl rfl) hmax) ?_ | refine WL.yld rfl lenQ ?_)
    | ((with_reducible refine WK.isN_call ?_); first | refine WL.step rfl (StepTo.callV (v := .bool true) (us := []) rfl rfl rfl rfl rfl (by kernel_rfl) (fun w hw => gshown_q w) ?_) | refine WL.step rfl (StepTo.callV (v := gv ((first - 1) % 4294967296) none 0 0 none 0 0) (us := [.int .u32 first]) rfl rfl rfl rfl rfl (by kernel_rfl) (fun w hw => new_q first w) ?_) | refine WK.yld rfl (Yld.as (Yld.maxI rfl rfl rfl) hmax) ?_ | refine WK.yld rfl lenQ ?_)
    | ((with_reducible refine WL.isN_alloc ?_); first | refine WL.step rfl (StepTo.allocA rfl rfl rfl rfl (fun _ => ?_)) | refine WL.step rfl (StepTo.alloc1 rfl rfl rfl rfl rfl (fun _ => ?_)))
    | ((with_reducible refine WL.isN_store ?_); first | refine WL.step rfl (StepTo.st1 rfl rfl rfl rfl rfl rfl ?_) | refine WL.step rfl (StepTo.stA rfl rfl rfl rfl rfl rfl rfl ?_) | refine WL.step rfl (StepTo.stR rfl rfl rfl rfl rfl rfl rfl ?_))
    | with_reducible refine WC.block ?_
    | (refine WC.quiet (i := 6) (by kernel_rfl) (by kernel_rfl) ?_)
    | (refine WC.cond rfl (fun hc => ?_) (fun hc => ?_) <;> (try first | (with_reducible replace hc := of_decide_eq_true hc) | (with_reducible replace hc := of_decide_eq_false hc) | (with_reducible replace hc := eqT hc) | (with_reducible replace hc := eqF hc) | (with_reducible replace hc := neT hc) | (with_reducible replace hc := neF hc) | (with_reducible replace hc := noT hc) | (with_reducible replace hc := noF hc)) <;> (try (exfalso; omega))))
  rename_i b8 b9
  refine WC.loop (fun mm τ H => ∃ (i : Nat) (S : List Nat) (cnt : Nat) (g : Gt.G) (A1 : Option Addr) (n1 k1 : Nat) (B1 : Option Addr) (m1 l1 : Nat) (S' : List Nat) (cnt' : Nat) (g' : Gt.G) (A2 : Option Addr) (n2 k2 : Nat) (B2 : Option Addr) (m2 l2 : Nat), i ≤ n ∧ mm = n - i ∧ Gt.Pl first S cnt g ∧ (∀ a, a ∈ S ↔ ∃ j, j < i ∧ v j = a) ∧ g.du.length + S.length = i ∧
      Gt.Pl first S' cnt' g' ∧ (∀ a, a ∈ S' ↔ ∃ j, j < i ∧ v ((n - 1 - j + kk) % n) = a) ∧ g'.du.length + S'.length = i ∧
      okA A1 n1 ∧ okA B1 m1 ∧ n1 ≤ k1 ∧ m1 ≤ l1 ∧ n1 = g.D.length ∧ m1 = g.du.length ∧ okA A2 n2 ∧ okA B2 m2 ∧ n2 ≤ k2 ∧ m2 ≤ l2 ∧ n2 = g'.D.length ∧ m2 = g'.du.length ∧
      τ = [(0, .int .u32 first), (1, .slice (some ⟨b, o, none⟩) n k), (8, .pointer (some ⟨b8, 0, none⟩)), (9, .pointer (some ⟨b9, 0, none⟩)), (10, .int .i64 (kk : Nat)), (11, .int .i64 (i : Nat))] ∧
      H = [.box b8 25 [.int .u32 g.c, .slice A1 n1 k1, .slice B1 m1 l1], .vw A1 n1 1 (flat (ic .u32) (Gt.ab g.c g.D)), .vw B1 m1 1 (flat (ic .u32) g.du), .box b9 25 [.int .u32 g'.c, .slice A2 n2 k2, .slice B2 m2 l2], .vw A2 n2 1 (flat (ic .u32) (Gt.ab g'.c g'.D)), .vw B2 m2 1 (flat (ic .u32) g'.du), .vw (some ⟨b, o, none⟩) n 1 (flat (ic .u32) xs)]) n _ _ [1, 2, 3, 0, 4, 5, 6] ?_ ?_
      ⟨0, [], 0, ⟨(first - 1) % 4294967296, [], []⟩, none, 0, 0, none, 0, 0, [], 0, ⟨(first - 1) % 4294967296, [], []⟩, none, 0, 0, none, 0, 0, by omega, rfl, Gt.Pl.start first, by simp, rfl, Gt.Pl.start first, by simp, rfl, okA_nil, okA_nil, by omega, by omega, rfl, rfl, okA_nil, okA_nil, by omega, by omega, rfl, rfl, rfl, rfl⟩ ?_
  · exact (by repeat (first | exact Sub.nil | refine Sub.cons rfl ?_ | refine Sub.consE rfl (int_eq (by omega)) ?_))
  · exact ⟨by decide, rfl⟩
  rintro mm τ H ⟨i, S, cnt, g, A1, n1, k1, B1, m1, l1, S', cnt', g', A2, n2, k2, B2, m2, l2, hi, rfl, hpl, hS, hdS, hpl', hS', hdS', oA1, oB1, hk1, hl1, hn1, hm1, oA2, oB2, hk2, hl2, hn2, hm2, rfl, rfl⟩
  have hlen := hpl.len
  have hlen' := hpl'.len
  by_cases hin : i < n
  · have hidn : (n - 1 - i + kk) % n < n := Nat.mod_lt _ (by omega)
    obtain ⟨x, hxi, hx0, ha, hvx⟩ := hget i hin
    obtain ⟨y, hyi, hy0, hb, hvy⟩ := hget _ hidn
    have hidx : Value.int .i64 (((n : Int) - 1 - (i : Int) + (kk : Int)) % (n : Int)) = .int .i64 (((n - 1 - i + kk) % n : Nat) : Int) := by
      congr 1
      rw [show (n : Int) - 1 - (i : Int) + (kk : Int) = ((n - 1 - i + kk : Nat) : Int) by omega, ← Int.natCast_emod]
    obtain ⟨S1, cnt1, q1, q2, q3⟩ := hpl.take ha (by omega)
    obtain ⟨S2, cnt2, p1, p2, p3⟩ := hpl'.take hb (by omega)
    have tq := fun w {V : Nat → Prop} hL hM hVA hVB => take_w (V := V) A1 n1 k1 B1 m1 l1 g (Gt.up first (v i)) w hL hM oA1 oB1 hk1 hl1 hpl.ok (by omega) (Gt.up_in _ _) hVA hVB
    have uq := fun w {V : Nat → Prop} hL hM hVA hVB => take_w (V := V) A2 n2 k2 B2 m2 l2 g' (Gt.up first (v ((n - 1 - i + kk) % n))) w hL hM oA2 oB2 hk2 hl2 hpl'.ok (by omega) (Gt.up_in _ _) hVA hVB
    have hS1 : ∀ a, a ∈ S1 ↔ ∃ j, j < i + 1 ∧ v j = a := fun a => by
      rw [q2, hS]
      constructor
      · rintro (⟨j, h1, h2⟩ | h)
        · exact ⟨j, by omega, h2⟩
        · exact ⟨i, by omega, h.symm⟩
      · rintro ⟨j, h1, h2⟩
        rcases Nat.lt_or_ge j i with h | h
        · exact .inl ⟨j, h, h2⟩
        · obtain rfl : j = i := by omega
          exact .inr h2.symm
    have hS2 : ∀ a, a ∈ S2 ↔ ∃ j, j < i + 1 ∧ v ((n - 1 - j + kk) % n) = a := fun a => by
      rw [p2, hS']
      constructor
      · rintro (⟨j, h1, h2⟩ | h)
        · exact ⟨j, by omega, h2⟩
        · exact ⟨i, by omega, h.symm⟩
      · rintro ⟨j, h1, h2⟩
        rcases Nat.lt_or_ge j i with h | h
        · exact .inl ⟨j, h, h2⟩
        · obtain rfl : j = i := by omega
          exact .inr h2.symm
    generalize Gt.take g (Gt.up first (v i)) = r1 at *
    generalize Gt.take g' (Gt.up first (v ((n - 1 - i + kk) % n))) = r2 at *
    obtain ⟨h1, y1⟩ := r1
    obtain ⟨h2, y2⟩ := r2
    simp only at q1 q3 p1 p3
    generalize hid : (n - 1 - i + kk) % n = id at *
    repeat' (first
    | refine goS ?_
    | ((with_reducible refine WL.isN_bin ?_); first | refine WL.yld rfl binQ ?_)
    | ((with_reducible refine WL.isN_load ?_); first | refine WL.yld rfl loadQ ?_)
    | ((with_reducible refine WL.isN_iaddr ?_); first | refine WL.yld rfl iaddrQ ?_)
    | ((with_reducible refine WL.isN_call ?_); first | refine WL.yld rfl lenQ ?_)
    | ((with_reducible refine WL.isN_alloc ?_); first | refine WL.step rfl (StepTo.allocA rfl rfl rfl rfl (fun _ => ?_)) | refine WL.step rfl (StepTo.alloc1 rfl rfl rfl rfl rfl (fun _ => ?_)))
    | ((with_reducible refine WL.isN_store ?_); first | refine WL.step rfl (StepTo.st1 rfl rfl rfl rfl rfl rfl ?_) | refine WL.step rfl (StepTo.stA rfl rfl rfl rfl rfl rfl rfl ?_) | refine WL.step rfl (StepTo.stR rfl rfl rfl rfl rfl rfl rfl ?_))
    | with_reducible refine WC.block ?_
    | (refine WC.cond rfl (fun hc => ?_) (fun hc => ?_) <;> (try first | (with_reducible replace hc := of_decide_eq_true hc) | (with_reducible replace hc := of_decide_eq_false hc) | (with_reducible replace hc := eqT hc) | (with_reducible replace hc := eqF hc) | (with_reducible replace hc := neT hc) | (with_reducible replace hc := neF hc) | (with_reducible replace hc := noT hc) | (with_reducible replace hc := noF hc)) <;> (try (exfalso; omega))))
    refine WC.cut (fun τ H => ∃ (A3 : Option Addr) (n3 k3 : Nat) (B3 : Option Addr) (m3 l3 : Nat), okA A3 n3 ∧ okA B3 m3 ∧ n3 ≤ k3 ∧ m3 ≤ l3 ∧ n3 = h1.D.length ∧ m3 = h1.du.length ∧
      τ = [(0, .int .u32 first), (1, .slice (some ⟨b, o, none⟩) n k), (8, .pointer (some ⟨b8, 0, none⟩)), (9, .pointer (some ⟨b9, 0, none⟩)), (10, .int .i64 (kk : Nat)), (11, .int .i64 (i : Nat))] ∧
      H = [.box b8 25 [.int .u32 h1.c, .slice A3 n3 k3, .slice B3 m3 l3], .vw A3 n3 1 (flat (ic .u32) (Gt.ab h1.c h1.D)), .vw B3 m3 1 (flat (ic .u32) h1.du), .box b9 25 [.int .u32 g'.c, .slice A2 n2 k2, .slice B2 m2 l2], .vw A2 n2 1 (flat (ic .u32) (Gt.ab g'.c g'.D)), .vw B2 m2 1 (flat (ic .u32) g'.du), .vw (some ⟨b, o, none⟩) n 1 (flat (ic .u32) xs)]) ?_ ?_
    refine WC.anyI [6] (by kernel_rfl) ?_
    refine WA.take (idx := [6]) 1 rfl (by kernel_rfl) (by kernel_rfl) (by kernel_rfl) rfl ⟨by decide, rfl⟩ (Yld.pure rfl nrmQ) ?_
    refine WA.take (idx := [6]) 2 rfl (by kernel_rfl) (by kernel_rfl) (by kernel_rfl) rfl ⟨by decide, rfl⟩ (Yld.pure rfl nrmQ) ?_
    refine WA.take (idx := [6]) 3 rfl (by kernel_rfl) (by kernel_rfl) (by kernel_rfl) rfl ⟨by decide, rfl⟩ (Yld.pure rfl nrmQ) ?_
    refine WA.take (idx := [6]) 4 rfl (by kernel_rfl) (by kernel_rfl) (by kernel_rfl) rfl ⟨by decide, rfl⟩ (by first | exact Yld.indexS i rfl rfl rfl rfl rfl rfl hin | exact Yld.indexS 0 rfl rfl rfl rfl rfl rfl (by omega) | exact Yld.indexS 1 rfl rfl rfl rfl rfl rfl (by omega) | exact Yld.indexS 2 rfl rfl rfl rfl rfl rfl (by omega) | exact Yld.indexS _ rfl rfl rfl rfl rfl rfl (by omega) | exact Yld.indexA 0 rfl rfl rfl rfl rfl rfl (by omega) | exact Yld.indexA 1 rfl rfl rfl rfl rfl rfl (by omega) | exact Yld.indexA _ rfl rfl rfl rfl rfl rfl (by omega)) ?_
    refine WA.take (idx := [6]) 5 rfl (by kernel_rfl) (by kernel_rfl) (by kernel_rfl) rfl ⟨by decide, rfl⟩ (by first | exact Yld.load rfl rfl rfl rfl (CellAt.vwE 0 rfl (ic_get hxi) (by omega)) | exact Yld.load rfl rfl rfl rfl cellQ | exact Yld.loadAgg rfl rfl rfl rfl rfl aggQ) ?_
    refine WA.take (idx := [6]) 6 rfl (by kernel_rfl) (by kernel_rfl) (by kernel_rfl) rfl ⟨by decide, rfl⟩ (by first | exact Yld.rem rfl rfl rfl rfl hx0 (by omega) | exact Yld.as (Yld.pure rfl mU32) hvx | exact Yld.pure rfl nrmQ | exact Yld.rem rfl rfl rfl rfl (by omega) (by omega) | exact Yld.quo rfl rfl rfl rfl (by omega) (by omega) nrmQ | exact Yld.eqlB rfl rfl rfl rfl | exact Yld.neqB rfl rfl rfl rfl | exact Yld.eqlA 4 rfl rfl rfl (by kernel_rfl) (by kernel_rfl) rfl rfl | exact Yld.neqA 4 rfl rfl rfl (by kernel_rfl) (by kernel_rfl) rfl rfl | exact Yld.quoT rfl rfl rfl rfl (by omega) nrmQ) ?_
    refine WA.take (idx := [6]) 7 rfl (by kernel_rfl) (by kernel_rfl) (by kernel_rfl) rfl ⟨by decide, rfl⟩ (by first | exact Yld.rem rfl rfl rfl rfl hx0 (by omega) | exact Yld.as (Yld.pure rfl mU32) hvx | exact Yld.pure rfl nrmQ | exact Yld.rem rfl rfl rfl rfl (by omega) (by omega) | exact Yld.quo rfl rfl rfl rfl (by omega) (by omega) nrmQ | exact Yld.eqlB rfl rfl rfl rfl | exact Yld.neqB rfl rfl rfl rfl | exact Yld.eqlA 4 rfl rfl rfl (by kernel_rfl) (by kernel_rfl) rfl rfl | exact Yld.neqA 4 rfl rfl rfl (by kernel_rfl) (by kernel_rfl) rfl rfl | exact Yld.quoT rfl rfl rfl rfl (by omega) nrmQ) ?_
    refine WA.one 0 (by kernel_rfl) rfl rfl ?_
    refine StepTo.yld (by first | exact Yld.load rfl rfl rfl rfl (CellAt.vwE 0 rfl (ic_get hxi) (by omega)) | exact Yld.load rfl rfl rfl rfl cellQ | exact Yld.loadAgg rfl rfl rfl rfl rfl aggQ) rfl ⟨⟨[6], by decide, rfl⟩, ?_⟩
    refine WA.one 8 (by kernel_rfl) rfl rfl ?_
    refine StepTo.callN [1, 2] (us := [gv g.c A1 n1 k1 B1 m1 l1, .int .u32 (Gt.up first (v i))]) rfl rfl rfl rfl rfl (by kernel_rfl) (fun w hw => tq w (hw.lst 1 (ic_len .u32) (by omega) rfl) (hw.lst 2 (ic_len .u32) (by omega) rfl) (nearV.vs 1 rfl (by simp)) (nearV.vs 2 rfl (by simp))) ?_
    rintro v N ⟨A3, n3, k3, B3, m3, l3, rfl, oA3, oB3, hn3, hm3, hk3, hl3, rfl⟩
    simp only at hn3 hm3
    refine ⟨⟨[8], by decide, rfl⟩, ?_⟩
    refine WA.take (idx := [8]) 9 rfl (by kernel_rfl) (by kernel_rfl) (by kernel_rfl) rfl ⟨by decide, rfl⟩ (Yld.pure rfl nrmQ) ?_
    refine WA.take (idx := [8]) 10 rfl (by kernel_rfl) (by kernel_rfl) (by kernel_rfl) rfl ⟨by decide, rfl⟩ (Yld.pure rfl nrmQ) ?_
    refine WA.take (idx := [8]) 11 rfl (by kernel_rfl) (by kernel_rfl) (by kernel_rfl) rfl ⟨by decide, rfl⟩ (Yld.pure rfl nrmQ) ?_
    refine WA.one 12 (by kernel_rfl) rfl rfl ?_
    first | refine StepTo.store1 0 rfl rfl rfl rfl rfl rfl rfl overQ setQ ⟨⟨[8], by decide, rfl⟩, ?_⟩ | refine StepTo.storeA 0 rfl rfl rfl rfl rfl rfl rfl rfl overQ setQ ⟨⟨[8], by decide, rfl⟩, ?_⟩ | refine StepTo.storeRow 0 rfl rfl rfl rfl rfl rfl rfl rfl (by omega) setQ ⟨⟨[8], by decide, rfl⟩, ?_⟩ | refine StepTo.store1 1 rfl rfl rfl rfl rfl rfl rfl overQ setQ ⟨⟨[8], by decide, rfl⟩, ?_⟩ | refine StepTo.storeA 1 rfl rfl rfl rfl rfl rfl rfl rfl overQ setQ ⟨⟨[8], by decide, rfl⟩, ?_⟩ | refine StepTo.storeRow 1 rfl rfl rfl rfl rfl rfl rfl rfl (by omega) setQ ⟨⟨[8], by decide, rfl⟩, ?_⟩ | refine StepTo.store1 2 rfl rfl rfl rfl rfl rfl rfl overQ setQ ⟨⟨[8], by decide, rfl⟩, ?_⟩ | refine StepTo.storeA 2 rfl rfl rfl rfl rfl rfl rfl rfl overQ setQ ⟨⟨[8], by decide, rfl⟩, ?_⟩ | refine StepTo.storeRow 2 rfl rfl rfl rfl rfl rfl rfl rfl (by omega) setQ ⟨⟨[8], by decide, rfl⟩, ?_⟩ | refine StepTo.store1 3 rfl rfl rfl rfl rfl rfl rfl overQ setQ ⟨⟨[8], by decide, rfl⟩, ?_⟩ | refine StepTo.storeA 3 rfl rfl rfl rfl rfl rfl rfl rfl overQ setQ ⟨⟨[8], by decide, rfl⟩, ?_⟩ | refine StepTo.storeRow 3 rfl rfl rfl rfl rfl rfl rfl rfl (by omega) setQ ⟨⟨[8], by decide, rfl⟩, ?_⟩ | refine StepTo.store1 4 rfl rfl rfl rfl rfl rfl rfl overQ setQ ⟨⟨[8], by decide, rfl⟩, ?_⟩ | refine StepTo.storeA 4 rfl rfl rfl rfl rfl rfl rfl rfl overQ setQ ⟨⟨[8], by decide, rfl⟩, ?_⟩ | refine StepTo.storeRow 4 rfl rfl rfl rfl rfl rfl rfl rfl (by omega) setQ ⟨⟨[8], by decide, rfl⟩, ?_⟩ | refine StepTo.store1 5 rfl rfl rfl rfl rfl rfl rfl overQ setQ ⟨⟨[8], by decide, rfl⟩, ?_⟩ | refine StepTo.storeA 5 rfl rfl rfl rfl rfl rfl rfl rfl overQ setQ ⟨⟨[8], by decide, rfl⟩, ?_⟩ | refine StepTo.storeRow 5 rfl rfl rfl rfl rfl rfl rfl rfl (by omega) setQ ⟨⟨[8], by decide, rfl⟩, ?_⟩ | refine StepTo.store1 6 rfl rfl rfl rfl rfl rfl rfl overQ setQ ⟨⟨[8], by decide, rfl⟩, ?_⟩ | refine StepTo.storeA 6 rfl rfl rfl rfl rfl rfl rfl rfl overQ setQ ⟨⟨[8], by decide, rfl⟩, ?_⟩ | refine StepTo.storeRow 6 rfl rfl rfl rfl rfl rfl rfl rfl (by omega) setQ ⟨⟨[8], by decide, rfl⟩, ?_⟩ | refine StepTo.store1 7 rfl rfl rfl rfl rfl rfl rfl overQ setQ ⟨⟨[8], by decide, rfl⟩, ?_⟩ | refine StepTo.storeA 7 rfl rfl rfl rfl rfl rfl rfl rfl overQ setQ ⟨⟨[8], by decide, rfl⟩, ?_⟩ | refine StepTo.storeRow 7 rfl rfl rfl rfl rfl rfl rfl rfl (by omega) setQ ⟨⟨[8], by decide, rfl⟩, ?_⟩ | refine StepTo.store1 8 rfl rfl rfl rfl rfl rfl rfl overQ setQ ⟨⟨[8], by decide, rfl⟩, ?_⟩ | refine StepTo.storeA 8 rfl rfl rfl rfl rfl rfl rfl rfl overQ setQ ⟨⟨[8], by decide, rfl⟩, ?_⟩ | refine StepTo.storeRow 8 rfl rfl rfl rfl rfl rfl rfl rfl (by omega) setQ ⟨⟨[8], by decide, rfl⟩, ?_⟩
    refine WA.done (by kernel_rfl) ?_
    repeat' (first
    | refine goS ?_
    | ((with_reducible refine WL.isN_bin ?_); first | refine WL.yld rfl binQ ?_)
    | ((with_reducible refine WL.isN_load ?_); first | refine WL.yld rfl loadQ ?_)
    | ((with_reducible refine WL.isN_iaddr ?_); first | refine WL.yld rfl iaddrQ ?_)
    | ((with_reducible refine WL.isN_call ?_); first | refine WL.yld rfl lenQ ?_)
    | ((with_reducible refine WL.isN_alloc ?_); first | refine WL.step rfl (StepTo.allocA rfl rfl rfl rfl (fun _ => ?_)) | refine WL.step rfl (StepTo.alloc1 rfl rfl rfl rfl rfl (fun _ => ?_)))
    | ((with_reducible refine WL.isN_store ?_); first | refine WL.step rfl (StepTo.st1 rfl rfl rfl rfl rfl rfl ?_) | refine WL.step rfl (StepTo.stA rfl rfl rfl rfl rfl rfl rfl ?_) | refine WL.step rfl (StepTo.stR rfl rfl rfl rfl rfl rfl rfl ?_))
    | with_reducible refine WC.block ?_
    | (refine WC.cond rfl (fun hc => ?_) (fun hc => ?_) <;> (try first | (with_reducible replace hc := of_decide_eq_true hc) | (with_reducible replace hc := of_decide_eq_false hc) | (with_reducible replace hc := eqT hc) | (with_reducible replace hc := eqF hc) | (with_reducible replace hc := neT hc) | (with_reducible replace hc := neF hc) | (with_reducible replace hc := noT hc) | (with_reducible replace hc := noF hc)) <;> (try (exfalso; omega))))
    refine WQ.met _ _ [2, 0, 1, 5, 6, 7, 8] (by repeat (first | exact Sub.nil | refine Sub.cons rfl ?_ | refine Sub.consE rfl (int_eq (by omega)) ?_)) ⟨by decide, rfl⟩ ⟨A3, n3, k3, B3, m3, l3, oA3, oB3, hk3, hl3, hn3, hm3, rfl, rfl⟩
    rintro τ H ⟨A3, n3, k3, B3, m3, l3, oA3, oB3, hk3, hl3, hn3, hm3, rfl, rfl⟩
    refine WC.anyI [6] (by kernel_rfl) ?_
    refine WA.take (idx := [6]) 1 rfl (by kernel_rfl) (by kernel_rfl) (by kernel_rfl) rfl ⟨by decide, rfl⟩ (Yld.pure rfl nrmQ) ?_
    refine WA.take (idx := [6]) 2 rfl (by kernel_rfl) (by kernel_rfl) (by kernel_rfl) rfl ⟨by decide, rfl⟩ (Yld.pure rfl nrmQ) ?_
    refine WA.take (idx := [6]) 3 rfl (by kernel_rfl) (by kernel_rfl) (by kernel_rfl) rfl ⟨by decide, rfl⟩ (Yld.pure rfl nrmQ) ?_
    refine WA.take (idx := [6]) 4 rfl (by kernel_rfl) (by kernel_rfl) (by kernel_rfl) rfl ⟨by decide, rfl⟩ (by first | exact Yld.lenSlice rfl rfl rfl | exact Yld.lenStr rfl rfl rfl) ?_
    refine WA.take (idx := [6]) 5 rfl (by kernel_rfl) (by kernel_rfl) (by kernel_rfl) rfl ⟨by decide, rfl⟩ (by first | exact Yld.as (Yld.rem rfl rfl rfl rfl (by omega) (by omega)) hidx | exact Yld.rem rfl rfl rfl rfl hy0 (by omega) | exact Yld.as (Yld.pure rfl mU32) hvy | exact Yld.pure rfl nrmQ | exact Yld.rem rfl rfl rfl rfl (by omega) (by omega) | exact Yld.quo rfl rfl rfl rfl (by omega) (by omega) nrmQ | exact Yld.eqlB rfl rfl rfl rfl | exact Yld.neqB rfl rfl rfl rfl | exact Yld.eqlA 4 rfl rfl rfl (by kernel_rfl) (by kernel_rfl) rfl rfl | exact Yld.neqA 4 rfl rfl rfl (by kernel_rfl) (by kernel_rfl) rfl rfl | exact Yld.quoT rfl rfl rfl rfl (by omega) nrmQ) ?_
    refine WA.take (idx := [6]) 6 rfl (by kernel_rfl) (by kernel_rfl) (by kernel_rfl) rfl ⟨by decide, rfl⟩ (Yld.pure rfl nrmQ) ?_
    refine WA.take (idx := [6]) 7 rfl (by kernel_rfl) (by kernel_rfl) (by kernel_rfl) rfl ⟨by decide, rfl⟩ (by first | exact Yld.as (Yld.rem rfl rfl rfl rfl (by omega) (by omega)) hidx | exact Yld.rem rfl rfl rfl rfl hy0 (by omega) | exact Yld.as (Yld.pure rfl mU32) hvy | exact Yld.pure rfl nrmQ | exact Yld.rem rfl rfl rfl rfl (by omega) (by omega) | exact Yld.quo rfl rfl rfl rfl (by omega) (by omega) nrmQ | exact Yld.eqlB rfl rfl rfl rfl | exact Yld.neqB rfl rfl rfl rfl | exact Yld.eqlA 4 rfl rfl rfl (by kernel_rfl) (by kernel_rfl) rfl rfl | exact Yld.neqA 4 rfl rfl rfl (by kernel_rfl) (by kernel_rfl) rfl rfl | exact Yld.quoT rfl rfl rfl rfl (by omega) nrmQ) ?_
    refine WA.take (idx := [6]) 8 rfl (by kernel_rfl) (by kernel_rfl) (by kernel_rfl) rfl ⟨by decide, rfl⟩ (Yld.pure rfl nrmQ) ?_
    refine WA.take (idx := [6]) 9 rfl (by kernel_rfl) (by kernel_rfl) (by kernel_rfl) rfl ⟨by decide, rfl⟩ (by first | exact Yld.as (Yld.rem rfl rfl rfl rfl (by omega) (by omega)) hidx | exact Yld.rem rfl rfl rfl rfl hy0 (by omega) | exact Yld.as (Yld.pure rfl mU32) hvy | exact Yld.pure rfl nrmQ | exact Yld.rem rfl rfl rfl rfl (by omega) (by omega) | exact Yld.quo rfl rfl rfl rfl (by omega) (by omega) nrmQ | exact Yld.eqlB rfl rfl rfl rfl | exact Yld.neqB rfl rfl rfl rfl | exact Yld.eqlA 4 rfl rfl rfl (by kernel_rfl) (by kernel_rfl) rfl rfl | exact Yld.neqA 4 rfl rfl rfl (by kernel_rfl) (by kernel_rfl) rfl rfl | exact Yld.quoT rfl rfl rfl rfl (by omega) nrmQ) ?_
    refine WA.take (idx := [6]) 10 rfl (by kernel_rfl) (by kernel_rfl) (by kernel_rfl) rfl ⟨by decide, rfl⟩ (Yld.pure rfl nrmQ) ?_
    refine WA.take (idx := [6]) 11 rfl (by kernel_rfl) (by kernel_rfl) (by kernel_rfl) rfl ⟨by decide, rfl⟩ (by first | exact Yld.lenSlice rfl rfl rfl | exact Yld.lenStr rfl rfl rfl) ?_
    refine WA.take (idx := [6]) 12 rfl (by kernel_rfl) (by kernel_rfl) (by kernel_rfl) rfl ⟨by decide, rfl⟩ (by first | exact Yld.as (Yld.rem rfl rfl rfl rfl (by omega) (by omega)) hidx | exact Yld.rem rfl rfl rfl rfl hy0 (by omega) | exact Yld.as (Yld.pure rfl mU32) hvy | exact Yld.pure rfl nrmQ | exact Yld.rem rfl rfl rfl rfl (by omega) (by omega) | exact Yld.quo rfl rfl rfl rfl (by omega) (by omega) nrmQ | exact Yld.eqlB rfl rfl rfl rfl | exact Yld.neqB rfl rfl rfl rfl | exact Yld.eqlA 4 rfl rfl rfl (by kernel_rfl) (by kernel_rfl) rfl rfl | exact Yld.neqA 4 rfl rfl rfl (by kernel_rfl) (by kernel_rfl) rfl rfl | exact Yld.quoT rfl rfl rfl rfl (by omega) nrmQ) ?_
    refine WA.take (idx := [6]) 13 rfl (by kernel_rfl) (by kernel_rfl) (by kernel_rfl) rfl ⟨by decide, rfl⟩ (by first | exact Yld.indexS id rfl rfl rfl rfl rfl rfl hidn | exact Yld.indexS 0 rfl rfl rfl rfl rfl rfl (by omega) | exact Yld.indexS 1 rfl rfl rfl rfl rfl rfl (by omega) | exact Yld.indexS 2 rfl rfl rfl rfl rfl rfl (by omega) | exact Yld.indexS _ rfl rfl rfl rfl rfl rfl (by omega) | exact Yld.indexA 0 rfl rfl rfl rfl rfl rfl (by omega) | exact Yld.indexA 1 rfl rfl rfl rfl rfl rfl (by omega) | exact Yld.indexA _ rfl rfl rfl rfl rfl rfl (by omega)) ?_
    refine WA.take (idx := [6]) 14 rfl (by kernel_rfl) (by kernel_rfl) (by kernel_rfl) rfl ⟨by decide, rfl⟩ (by first | exact Yld.load rfl rfl rfl rfl (CellAt.vwE 0 rfl (ic_get hyi) (by omega)) | exact Yld.load rfl rfl rfl rfl cellQ | exact Yld.loadAgg rfl rfl rfl rfl rfl aggQ) ?_
    refine WA.take (idx := [6]) 15 rfl (by kernel_rfl) (by kernel_rfl) (by kernel_rfl) rfl ⟨by decide, rfl⟩ (by first | exact Yld.as (Yld.rem rfl rfl rfl rfl (by omega) (by omega)) hidx | exact Yld.rem rfl rfl rfl rfl hy0 (by omega) | exact Yld.as (Yld.pure rfl mU32) hvy | exact Yld.pure rfl nrmQ | exact Yld.rem rfl rfl rfl rfl (by omega) (by omega) | exact Yld.quo rfl rfl rfl rfl (by omega) (by omega) nrmQ | exact Yld.eqlB rfl rfl rfl rfl | exact Yld.neqB rfl rfl rfl rfl | exact Yld.eqlA 4 rfl rfl rfl (by kernel_rfl) (by kernel_rfl) rfl rfl | exact Yld.neqA 4 rfl rfl rfl (by kernel_rfl) (by kernel_rfl) rfl rfl | exact Yld.quoT rfl rfl rfl rfl (by omega) nrmQ) ?_
    refine WA.take (idx := [6]) 16 rfl (by kernel_rfl) (by kernel_rfl) (by kernel_rfl) rfl ⟨by decide, rfl⟩ (by first | exact Yld.as (Yld.rem rfl rfl rfl rfl (by omega) (by omega)) hidx | exact Yld.rem rfl rfl rfl rfl hy0 (by omega) | exact Yld.as (Yld.pure rfl mU32) hvy | exact Yld.pure rfl nrmQ | exact Yld.rem rfl rfl rfl rfl (by omega) (by omega) | exact Yld.quo rfl rfl rfl rfl (by omega) (by omega) nrmQ | exact Yld.eqlB rfl rfl rfl rfl | exact Yld.neqB rfl rfl rfl rfl | exact Yld.eqlA 4 rfl rfl rfl (by kernel_rfl) (by kernel_rfl) rfl rfl | exact Yld.neqA 4 rfl rfl rfl (by kernel_rfl) (by kernel_rfl) rfl rfl | exact Yld.quoT rfl rfl rfl rfl (by omega) nrmQ) ?_
    refine WA.one 0 (by kernel_rfl) rfl rfl ?_
    refine StepTo.yld (by first | exact Yld.load rfl rfl rfl rfl (CellAt.vwE 0 rfl (ic_get hyi) (by omega)) | exact Yld.load rfl rfl rfl rfl cellQ | exact Yld.loadAgg rfl rfl rfl rfl rfl aggQ) rfl ⟨⟨[6], by decide, rfl⟩, ?_⟩
    refine WA.one 17 (by kernel_rfl) rfl rfl ?_
    refine StepTo.callN [4, 5] (us := [gv g'.c A2 n2 k2 B2 m2 l2, .int .u32 (Gt.up first (v id))]) rfl rfl rfl rfl rfl (by kernel_rfl) (fun w hw => uq w (hw.lst 4 (ic_len .u32) (by omega) rfl) (hw.lst 5 (ic_len .u32) (by omega) rfl) (nearV.vs 4 rfl (by simp)) (nearV.vs 5 rfl (by simp))) ?_
    rintro v N ⟨A4, n4, k4, B4, m4, l4, rfl, oA4, oB4, hn4, hm4, hk4, hl4, rfl⟩
    simp only at hn4 hm4
    refine ⟨⟨[8], by decide, rfl⟩, ?_⟩
    refine WA.take (idx := [8]) 18 rfl (by kernel_rfl) (by kernel_rfl) (by kernel_rfl) rfl ⟨by decide, rfl⟩ (Yld.pure rfl nrmQ) ?_
    refine WA.take (idx := [8]) 19 rfl (by kernel_rfl) (by kernel_rfl) (by kernel_rfl) rfl ⟨by decide, rfl⟩ (Yld.pure rfl nrmQ) ?_
    refine WA.take (idx := [8]) 20 rfl (by kernel_rfl) (by kernel_rfl) (by kernel_rfl) rfl ⟨by decide, rfl⟩ (Yld.pure rfl nrmQ) ?_
    refine WA.one 21 (by kernel_rfl) rfl rfl ?_
    first | refine StepTo.store1 0 rfl rfl rfl rfl rfl rfl rfl overQ setQ ⟨⟨[8], by decide, rfl⟩, ?_⟩ | refine StepTo.storeA 0 rfl rfl rfl rfl rfl rfl rfl rfl overQ setQ ⟨⟨[8], by decide, rfl⟩, ?_⟩ | refine StepTo.storeRow 0 rfl rfl rfl rfl rfl rfl rfl rfl (by omega) setQ ⟨⟨[8], by decide, rfl⟩, ?_⟩ | refine StepTo.store1 1 rfl rfl rfl rfl rfl rfl rfl overQ setQ ⟨⟨[8], by decide, rfl⟩, ?_⟩ | refine StepTo.storeA 1 rfl rfl rfl rfl rfl rfl rfl rfl overQ setQ ⟨⟨[8], by decide, rfl⟩, ?_⟩ | refine StepTo.storeRow 1 rfl rfl rfl rfl rfl rfl rfl rfl (by omega) setQ ⟨⟨[8], by decide, rfl⟩, ?_⟩ | refine StepTo.store1 2 rfl rfl rfl rfl rfl rfl rfl overQ setQ ⟨⟨[8], by decide, rfl⟩, ?_⟩ | refine StepTo.storeA 2 rfl rfl rfl rfl rfl rfl rfl rfl overQ setQ ⟨⟨[8], by decide, rfl⟩, ?_⟩ | refine StepTo.storeRow 2 rfl rfl rfl rfl rfl rfl rfl rfl (by omega) setQ ⟨⟨[8], by decide, rfl⟩, ?_⟩ | refine StepTo.store1 3 rfl rfl rfl rfl rfl rfl rfl overQ setQ ⟨⟨[8], by decide, rfl⟩, ?_⟩ | refine StepTo.storeA 3 rfl rfl rfl rfl rfl rfl rfl rfl overQ setQ ⟨⟨[8], by decide, rfl⟩, ?_⟩ | refine StepTo.storeRow 3 rfl rfl rfl rfl rfl rfl rfl rfl (by omega) setQ ⟨⟨[8], by decide, rfl⟩, ?_⟩ | refine StepTo.store1 4 rfl rfl rfl rfl rfl rfl rfl overQ setQ ⟨⟨[8], by decide, rfl⟩, ?_⟩ | refine StepTo.storeA 4 rfl rfl rfl rfl rfl rfl rfl rfl overQ setQ ⟨⟨[8], by decide, rfl⟩, ?_⟩ | refine StepTo.storeRow 4 rfl rfl rfl rfl rfl rfl rfl rfl (by omega) setQ ⟨⟨[8], by decide, rfl⟩, ?_⟩ | refine StepTo.store1 5 rfl rfl rfl rfl rfl rfl rfl overQ setQ ⟨⟨[8], by decide, rfl⟩, ?_⟩ | refine StepTo.storeA 5 rfl rfl rfl rfl rfl rfl rfl rfl overQ setQ ⟨⟨[8], by decide, rfl⟩, ?_⟩ | refine StepTo.storeRow 5 rfl rfl rfl rfl rfl rfl rfl rfl (by omega) setQ ⟨⟨[8], by decide, rfl⟩, ?_⟩ | refine StepTo.store1 6 rfl rfl rfl rfl rfl rfl rfl overQ setQ ⟨⟨[8], by decide, rfl⟩, ?_⟩ | refine StepTo.storeA 6 rfl rfl rfl rfl rfl rfl rfl rfl overQ setQ ⟨⟨[8], by decide, rfl⟩, ?_⟩ | refine StepTo.storeRow 6 rfl rfl rfl rfl rfl rfl rfl rfl (by omega) setQ ⟨⟨[8], by decide, rfl⟩, ?_⟩ | refine StepTo.store1 7 rfl rfl rfl rfl rfl rfl rfl overQ setQ ⟨⟨[8], by decide, rfl⟩, ?_⟩ | refine StepTo.storeA 7 rfl rfl rfl rfl rfl rfl rfl rfl overQ setQ ⟨⟨[8], by decide, rfl⟩, ?_⟩ | refine StepTo.storeRow 7 rfl rfl rfl rfl rfl rfl rfl rfl (by omega) setQ ⟨⟨[8], by decide, rfl⟩, ?_⟩ | refine StepTo.store1 8 rfl rfl rfl rfl rfl rfl rfl overQ setQ ⟨⟨[8], by decide, rfl⟩, ?_⟩ | refine StepTo.storeA 8 rfl rfl rfl rfl rfl rfl rfl rfl overQ setQ ⟨⟨[8], by decide, rfl⟩, ?_⟩ | refine StepTo.storeRow 8 rfl rfl rfl rfl rfl rfl rfl rfl (by omega) setQ ⟨⟨[8], by decide, rfl⟩, ?_⟩
    refine WA.done (by kernel_rfl) ?_
    repeat' (first
    | refine goS ?_
    | ((with_reducible refine WL.isN_bin ?_); first | refine WL.yld rfl binQ ?_)
    | ((with_reducible refine WL.isN_load ?_); first | refine WL.yld rfl loadQ ?_)
    | ((with_reducible refine WL.isN_iaddr ?_); first | refine WL.yld rfl iaddrQ ?_)
    | ((with_reducible refine WL.isN_call ?_); first | refine WL.yld rfl lenQ ?_)
    | ((with_reducible refine WL.isN_alloc ?_); first | refine WL.step rfl (StepTo.allocA rfl rfl rfl rfl (fun _ => ?_)) | refine WL.step rfl (StepTo.alloc1 rfl rfl rfl rfl rfl (fun _ => ?_)))
    | ((with_reducible refine WL.isN_store ?_); first | refine WL.step rfl (StepTo.st1 rfl rfl rfl rfl rfl rfl ?_) | refine WL.step rfl (StepTo.stA rfl rfl rfl rfl rfl rfl rfl ?_) | refine WL.step rfl (StepTo.stR rfl rfl rfl rfl rfl rfl rfl ?_))
    | with_reducible refine WC.block ?_
    | (refine WC.cond rfl (fun hc => ?_) (fun hc => ?_) <;> (try first | (with_reducible replace hc := of_decide_eq_true hc) | (with_reducible replace hc := of_decide_eq_false hc) | (with_reducible replace hc := eqT hc) | (with_reducible replace hc := eqF hc) | (with_reducible replace hc := neT hc) | (with_reducible replace hc := neF hc) | (with_reducible replace hc := noT hc) | (with_reducible replace hc := noF hc)) <;> (try (exfalso; omega))))
    exact WQ.rnd (n - (i + 1)) _ _ [2, 3, 4, 5, 0, 1, 8] (by repeat (first | exact Sub.nil | refine Sub.cons rfl ?_ | refine Sub.consE rfl (int_eq (by omega)) ?_)) ⟨by decide, rfl⟩ (by omega) ⟨i + 1, S1, cnt1, h1, A3, n3, k3, B3, m3, l3, S2, cnt2, h2, A4, n4, k4, B4, m4, l4, by omega, rfl, q1, hS1, by omega, p1, hS2, by omega, oA3, oB3, hk3, hl3, hn3, hm3, oA4, oB4, hk4, hl4, hn4, hm4, rfl, rfl⟩
  obtain rfl : i = n := by omega
  have hsame : ∀ a, a ∈ S ↔ a ∈ S' := fun a => by
    rw [hS, hS']
    constructor
    · rintro ⟨j, h1, h2⟩
      obtain ⟨p, hp, e⟩ := Gt.idx_all (n := i) (kk := kk) (by omega) h1
      exact ⟨p, hp, by rw [e, h2]⟩
    · rintro ⟨j, h1, h2⟩
      exact ⟨_, Nat.mod_lt _ (by omega), h2⟩
  obtain ⟨e1, e2, e3⟩ := hpl.same hpl' hsame
  have hab : Gt.ab g.c g.D = Gt.ab g'.c g'.D := by rw [e1, e2]
  have hg1 : (g.c == g'.c) = true := beqT e1
  have hm12 : m1 = m2 := by omega
  have hfin : ((m1 : Int) == (m2 : Int)) = true := beqT (by omega)
  repeat' (first
    | refine goS ?_
    | ((with_reducible refine WL.isN_bin ?_); first | refine WL.yld rfl binQ ?_)
    | ((with_reducible refine WL.isN_load ?_); first | refine WL.yld rfl loadQ ?_)
    | ((with_reducible refine WL.isN_iaddr ?_); first | refine WL.yld rfl iaddrQ ?_)
    | ((with_reducible refine WL.isN_call ?_); first | refine WL.step rfl (StepTo.callV (v := .bool true) (us := [.slice A1 n1 k1, .slice A2 n2 k2]) rfl rfl rfl rfl rfl (by kernel_rfl) (fun w hw => nums_q A1 n1 k1 A2 n2 k2 (Gt.ab g.c g.D) (Gt.ab g'.c g'.D) true (by simp [hab]) w (hw.lst 1 (ic_len .u32) (by omega) rfl) (hw.lst 4 (ic_len .u32) (by omega) rfl) (by omega)) ?_) | refine WL.yld rfl lenQ ?_)
    | ((with_reducible refine WL.isN_alloc ?_); first | refine WL.step rfl (StepTo.allocA rfl rfl rfl rfl (fun _ => ?_)) | refine WL.step rfl (StepTo.alloc1 rfl rfl rfl rfl rfl (fun _ => ?_)))
    | ((with_reducible refine WL.isN_store ?_); first | refine WL.step rfl (StepTo.st1 rfl rfl rfl rfl rfl rfl ?_) | refine WL.step rfl (StepTo.stA rfl rfl rfl rfl rfl rfl rfl ?_) | refine WL.step rfl (StepTo.stR rfl rfl rfl rfl rfl rfl rfl ?_))
    | with_reducible refine WC.block ?_
    | (refine WC.cond rfl (fun hc => ?_) (fun hc => ?_) <;> (try first | (with_reducible replace hc := of_decide_eq_true hc) | (with_reducible replace hc := of_decide_eq_false hc) | (with_reducible replace hc := eqT hc) | (with_reducible replace hc := eqF hc) | (with_reducible replace hc := neT hc) | (with_reducible replace hc := neF hc) | (with_reducible replace hc := noT hc) | (with_reducible replace hc := noF hc)) <;> (try (exfalso; omega))))
  exact WQ.body (Reads.tmp rfl rfl) fun w' hw' => ⟨by rw [hfin], hw'.ext.below⟩
end Go.Proofs.Ythbhjnmkbmmcnaa
