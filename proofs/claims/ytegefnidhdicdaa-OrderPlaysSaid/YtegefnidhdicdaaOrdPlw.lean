/- After any messages and skips: the walk of OrderPlays. -/
import Derived.Test.YtegefnidhdicdaaOrdPls
import Derived.Test.YtegefnidhdicdaaOpn
namespace Go.Proofs.Ytegefnidhdicdaa
open Go.RowKit
set_option linter.unusedVariables false

theorem opick4 (c : Int) (h0 : -9223372036854775808 ≤ c) (h1 : c ≤ 9223372036854775807) : ∃ t : Nat, t < 4 ∧ ∀ w : World,
    Calls Try.prog 10 #[.int .i64 c, .int .i64 4] w fun e w' => e = .returned (.int .i64 t) ∧ Below w.heap.size w w' := opick_n c 4 h0 h1 (by omega) (by omega)
def OAct.Ok (a : OAct) : Prop := (-9223372036854775808 ≤ a.op ∧ a.op ≤ 9223372036854775807) ∧ (-9223372036854775808 ≤ a.to_ ∧ a.to_ ≤ 9223372036854775807) ∧ U16M a.m ∧ N16 a.m
theorem sameAll_n (A1 : Option Addr) (n c1 : Nat) (A2 : Option Addr) (n2 c2 : Nat) (xs : List Msg) (w : World) (hL1 : Ms w w.heap.size A1 n xs) (hL2 : Ms w w.heap.size A2 n2 xs) :
    Calls Try.prog 20 #[.slice A1 n c1, .slice A2 n2 c2] w fun e w' => e = .returned (.bool true) ∧ Below w.heap.size w w' := by
  obtain rfl : n2 = n := by rw [← hL1.len, ← hL2.len]
  exact sameAll_q A1 n2 c1 A2 c2 xs w hL1 hL2
theorem same_n (A1 : Option Addr) (k c1 : Nat) (B1 : Option Addr) (n d1 : Nat) (A2 : Option Addr) (k2 c2 : Nat) (B2 : Option Addr) (n2 d2 : Nat) (next : List Int) (wait : List Msg) (w : World) (hN1 : Us w w.heap.size A1 k next) (hW1 : Ms w w.heap.size B1 n wait) (hN2 : Us w w.heap.size A2 k2 next) (hW2 : Ms w w.heap.size B2 n2 wait) (hk : next.length ≤ 65535) (hn : wait.length ≤ 1000000) :
    Calls Try.prog 16 #[.agg #[.slice A1 k c1, .slice B1 n d1], .agg #[.slice A2 k2 c2, .slice B2 n2 d2]] w fun e w' => e = .returned (.bool true) ∧ Below w.heap.size w w' := by
  obtain rfl : k2 = k := by rw [← hN1.len, ← hN2.len]
  obtain rfl : n2 = n := by rw [← hW1.len, ← hW2.len]
  exact same_q A1 k2 c1 B1 n2 d1 A2 c2 B2 d2 next wait w hN1 hW1 hN2 hW2 (by rw [← hN1.len]; exact hk) (by rw [← hW1.len]; exact hn)

theorem New.rowVw {V : Nat → Prop} {A : Option Addr} {m c t k : Nat} {xs : List Value} {w w' : World} (h : New V [.row A m c t k xs] w w') (hm : m ≤ maxLen) : New V [.vw A m k xs] w w' := by
  obtain ⟨h1, h2, _⟩ := h
  obtain ⟨hr, hb⟩ := h2 _ (List.mem_singleton.2 rfl)
  have hrow : w'.ownsRow 0 t k (.slice A m c) m xs := hr
  refine ⟨h1, fun it hit => ?_, List.pairwise_singleton _ _⟩
  rw [List.mem_singleton] at hit
  subst hit
  refine ⟨⟨hrow.1, hm, fun h0 => ?_⟩, fun b hbk => ?_⟩
  · obtain ⟨g, cap, hg, _, hlt⟩ := hrow.form h0
    injection hg with hg
    subst hg
    refine ⟨g, 0, rfl, hlt, fun j u hu => ?_⟩
    have := World.ownsRow.cells hrow (g := g) rfl j u hu
    rwa [addr_add] at this
  · cases m with
    | zero => simp [Item.blk] at hbk
    | succ m =>
      rcases hb b hbk with h | h
      · exact .inl h
      · cases h.1
theorem WL.nilVw {P : Program} {w0 : World} {D : Nat → Prop} {n : Nat} {Q : Exit → Act → World → Prop} {τ : Tm} {H : List Item} {ops : Array Oper} {l : List Oper} (k : Nat) (h : WL P w0 D n ops Q l τ (.vw none 0 k [] :: H)) : WL P w0 D n ops Q l τ H :=
  ⟨fun a w ha hw => h.go a w ha ⟨hw.ext, fun it hit => by
      rcases List.mem_cons.1 hit with rfl | hit
      · exact ⟨by simp, by simp [maxLen], fun h => absurd h (by omega)⟩
      · exact hw.holds it hit, fun it hit hm b hb => by
      rcases List.mem_cons.1 hit with rfl | hit
      · simp [Item.blk] at hb
      · exact hw.own it hit hm b hb, List.Pairwise.cons (fun y _ => .inr fun b hb => by simp [Item.blk] at hb) hw.apart⟩⟩
def NewQ (k : Nat) (e : Int) (v : Value) (N : List Item) : Prop := ∃ A c, v = .tuple #[.agg #[.slice A k c, .slice none 0 0], .int .i64 e] ∧ N = [.vw A k 1 (flat u16c (List.replicate k 0))] ∧ okA A k
theorem newNone {w w' : World} {V : Nat → Prop} (h : Below w.heap.size w w') : ∃ v N, Ending.returned (.tuple #[.agg #[.slice none 0 0, .slice none 0 0], .int .i64 1]) = .returned v ∧ NewQ 0 1 v N ∧ New V N w w' :=
  ⟨_, _, rfl, ⟨none, 0, rfl, rfl, okA_nil⟩, h, fun it hit => by
    rw [List.mem_singleton] at hit
    subst hit
    exact ⟨holds_nil (enc := u16c), fun b hb => by simp [Item.blk] at hb⟩, List.pairwise_singleton _ _⟩
theorem news (s : Int) : ∃ (k : Nat) (e : Int), k ≤ 16 ∧ (∀ (w : World) (V : Nat → Prop), Calls Try.prog 9 #[.int .i64 s] w fun e' w' => ∃ v N, e' = .returned v ∧ NewQ k e v N ∧ New V N w w') ∧
    (∀ (w : World) (V : Nat → Prop), Calls Try.prog 15 #[.int .i64 s] w fun e' w' => ∃ v N, e' = .returned v ∧ NewQ k e v N ∧ New V N w w') := by
  by_cases h : s < 1 ∨ 16 < s
  · refine ⟨0, 1, by omega, fun w V => (new_no s w h).mono ?_, fun w V => (rnew_no s w h).mono ?_⟩
    · rintro e w' ⟨rfl, hb⟩
      exact newNone hb
    · rintro e w' ⟨rfl, hb⟩
      exact newNone hb
  · obtain ⟨k, rfl⟩ := Int.eq_ofNat_of_zero_le (show 0 ≤ s by omega)
    refine ⟨k, 0, by omega, fun w V => (new_s k w (V := V) (by omega) (by omega)).mono ?_, fun w V => (rnew_w k w (V := V) (by omega) (by omega)).mono ?_⟩
    · rintro e w' ⟨v, N, rfl, ⟨A, c, rfl, rfl, ok⟩, hN⟩
      exact ⟨_, _, rfl, ⟨A, c, rfl, rfl, ok⟩, hN.rowVw (by simp only [maxLen]; omega)⟩
    · rintro e w' ⟨v, N, rfl, ⟨A, c, rfl, rfl, ok⟩, hN⟩
      exact ⟨_, _, rfl, ⟨A, c, rfl, rfl, ok⟩, hN.rowVw (by simp only [maxLen]; omega)⟩

section
variable {w0 : World} {D : Nat → Prop} {H : List Item}
/-- Cells of a struct in a struct. -/
theorem CellAt.vwPP (i p : Nat) {b off m k o' j : Nat} {xs vs : List Value} {v : Value} (hi : H[i]? = some (.vw (some ⟨b, off, none⟩) m k xs)) (hm : 0 < m) (hp : PartAt xs o' vs) (hj : vs[p + j]? = some v) : CellAt w0 D H b (off + o' + p + j) v := by
  have := CellAt.vwP (w0 := w0) (D := D) i hi hm hp hj
  rwa [← Nat.add_assoc] at this
theorem AggAt.vwPP (i p : Nat) {b off m k o' q : Nat} {xs vs us : List Value} (hi : H[i]? = some (.vw (some ⟨b, off, none⟩) m k xs)) (hm : 0 < m) (hp : PartAt xs o' vs) (hc : cut vs p q = some us) : AggAt w0 D H b (off + o' + p) q us :=
  ⟨(cut_get _ _ _ _ hc).1, fun w hw j u hu => CellAt.vwPP i p hi hm hp ((cut_get _ _ _ _ hc).2 j u hu) w hw⟩
end

theorem rput_s {w0 w : World} {D : Nat → Prop} {H : List Item} (hw : Sat w0 D H w) (i j : Nat) {AN AW : Option Addr} {kN cN nW cW : Nat} {m : Msg} {next : List Int} {wait : List Msg} (hi : H[i]? = some (.vw AN kN 1 (flat u16c next))) (hj : H[j]? = some (.vw AW nW 6 (flat Msg.cs wait)))
    (oN : okA AN kN) (oW : okA AW nW) (hk : kN ≤ 65535) (hn : nW < 100000) (hm : U16M m) (hm2 : N16 m) (hr : ∀ x ∈ next, 0 ≤ x ∧ x ≤ 65535) (hu : ∀ m ∈ wait, U16M m) :
    Calls Try.prog 17 #[.agg #[.slice AN kN cN, .slice AW nW cW], .agg #[.int .u32 m.first, .bool m.free, .int .u16 m.stream, .int .u16 m.ssn, .int .u32 m.ppid, .string m.text]] w
      fun e w' => ∃ v N, e = .returned v ∧ PutR (putF next wait m) v N ∧ New (Vs H [i, j]) N w w' := by
  obtain ⟨s, hs⟩ := Int.eq_ofNat_of_zero_le hm.1
  have hm1 := hm.2
  have := rput_w AN AW kN cN nW cW s m.first m.ssn m.ppid m.free m.text next wait w hk hn (by omega) (hw.lst i u16c_len (by omega) hi) (hw.lst j Msg.cs_len (by omega) hj) oN oW hr hu hm2.1 hm2.2
  rw [← hs] at this
  refine this.mono fun e w' ⟨v, N, he, hR, hN⟩ => ⟨v, N, he, hR, hN.mono fun b hb => ?_⟩
  rcases hb with hb | hb
  · exact ⟨i, by simp, _, hi, rfl, by rw [blk_vw]; exact hb⟩
  · exact ⟨j, by simp, _, hj, rfl, by rw [blk_vw]; exact hb⟩
theorem rskip_s {w0 w : World} {D : Nat → Prop} {H : List Item} (hw : Sat w0 D H w) (i j : Nat) {AN AW : Option Addr} {kN cN nW cW : Nat} {s to : Int} {next : List Int} {wait : List Msg} (hi : H[i]? = some (.vw AN kN 1 (flat u16c next))) (hj : H[j]? = some (.vw AW nW 6 (flat Msg.cs wait)))
    (oN : okA AN kN) (oW : okA AW nW) (hk : kN ≤ 65535) (hn : nW < 100000) (hr : ∀ x ∈ next, 0 ≤ x ∧ x ≤ 65535) (hu : ∀ m ∈ wait, U16M m) (hv : ∀ m ∈ wait, N16 m) (q0 : 0 ≤ to) (q1 : to ≤ 65535) :
    Calls Try.prog 19 #[.agg #[.slice AN kN cN, .slice AW nW cW], .int .i64 s, .int .u16 to] w
      fun e w' => ∃ v N, e = .returned v ∧ PutR (skipF next wait s to) v N ∧ New (Vs H [i, j]) N w w' := by
  have := rskip_w AN AW kN cN nW cW s to next wait w hk hn (hw.lst i u16c_len (by omega) hi) (hw.lst j Msg.cs_len (by omega) hj) oN oW hr hu hv q0 q1
  refine this.mono fun e w' ⟨v, N, he, hR, hN⟩ => ⟨v, N, he, hR, hN.mono fun b hb => ?_⟩
  rcases hb with hb | hb
  · exact ⟨i, by simp, _, hi, rfl, by rw [blk_vw]; exact hb⟩
  · exact ⟨j, by simp, _, hj, rfl, by rw [blk_vw]; exact hb⟩

set_option maxHeartbeats 8000000 in
theorem orderPlays_any (s : Int) (A : Option Addr) (n c : Nat) (xs : List OAct) (w : World) (hL : Lst OAct.cs 8 w w.heap.size A n xs) (hxs : ∀ x ∈ xs, x.Ok) (htx : ∀ x ∈ xs, x.m.text.size ≤ maxLen) :
    Calls Try.prog 7 #[.int .i64 s, .slice A n c] w
      fun e w' => e = .returned (.bool true) ∧ Below w.heap.size w w' := by
  have hm := hL.most
  have hl := hL.len
  unfold maxLen at hm htx
  obtain ⟨k, e0, hk, hnew, hrnew⟩ := news s
  refine enterW (fun _ => False) _ Try.func7 rfl (by simp only [Try.ntmps7, List.length_cons, List.length_nil, Nat.reduceAdd, Nat.reduceSub]; rfl) ?_
  refine WC.addVw OAct.cs_len hL ?_
  by_cases h60 : 60 < n
  · repeat' (first
    | with_reducible refine WL.nil ?_
    | with_reducible refine WQ.thenN ?_
    | with_reducible refine WQ.code ?_
    | with_reducible refine WC.seq ?_
    | with_reducible refine WC.region ?_
    | ((with_reducible refine WL.isN_move ?_); first | refine WL.yld rfl (Yld.pure rfl nrmQ) ?_)
    | ((with_reducible refine WL.isN_assign ?_); first | refine WL.yld rfl (Yld.pure rfl nrmQ) ?_)
    | ((with_reducible refine WL.isN_bin ?_); first | refine WL.yld rfl (Yld.pure rfl nrmQ) ?_ | refine WL.yld rfl (Yld.rem rfl rfl rfl rfl (by omega) (by omega)) ?_ | refine WL.yld rfl (Yld.quo rfl rfl rfl rfl (by omega) (by omega) nrmQ) ?_ | refine WL.yld rfl (Yld.eqlB rfl rfl rfl rfl) ?_ | refine WL.yld rfl (Yld.neqB rfl rfl rfl rfl) ?_ | refine WL.yld rfl (Yld.eqlA 4 rfl rfl rfl (by kernel_rfl) (by kernel_rfl) rfl rfl) ?_ | refine WL.yld rfl (Yld.neqA 4 rfl rfl rfl (by kernel_rfl) (by kernel_rfl) rfl rfl) ?_ | refine WL.yld rfl (Yld.quoT rfl rfl rfl rfl (by omega) nrmQ) ?_)
    | ((with_reducible refine WL.isN_un ?_); first | refine WL.yld rfl (Yld.pure rfl nrmQ) ?_)
    | ((with_reducible refine WL.isN_extract ?_); first | refine WL.yld rfl (Yld.pure rfl nrmQ) ?_)
    | ((with_reducible refine WL.isN_load ?_); first | refine WL.yld rfl (Yld.load rfl rfl rfl rfl cellQ) ?_ | refine WL.yld rfl (Yld.loadAgg rfl rfl rfl rfl rfl aggQ) ?_)
    | ((with_reducible refine WL.isN_faddr ?_); first | refine WL.yld rfl (Yld.fieldAddr rfl rfl rfl rfl rfl rfl rfl) ?_)
    | ((with_reducible refine WL.isN_iaddr ?_); first | refine WL.yld rfl (Yld.indexS 0 rfl rfl rfl rfl rfl rfl (by omega)) ?_ | refine WL.yld rfl (Yld.indexS 1 rfl rfl rfl rfl rfl rfl (by omega)) ?_ | refine WL.yld rfl (Yld.indexS 2 rfl rfl rfl rfl rfl rfl (by omega)) ?_ | refine WL.yld rfl (Yld.indexS _ rfl rfl rfl rfl rfl rfl (by omega)) ?_ | refine WL.yld rfl (Yld.indexA 0 rfl rfl rfl rfl rfl rfl (by omega)) ?_ | refine WL.yld rfl (Yld.indexA 1 rfl rfl rfl rfl rfl rfl (by omega)) ?_ | refine WL.yld rfl (Yld.indexA _ rfl rfl rfl rfl rfl rfl (by omega)) ?_)
    | ((with_reducible refine WL.isN_pick ?_); first | refine WL.yld rfl (Yld.pickT rfl rfl rfl) ?_ | refine WL.yld rfl (Yld.pickF rfl rfl rfl) ?_ | refine WL.yld rfl (Yld.pickTh rfl rfl gdQ rfl) ?_ | refine WL.yld rfl (Yld.pickFh rfl rfl gdQ rfl) ?_ | refine WL.yld rfl (Yld.pickB rfl rfl rfl rfl) ?_)
    | ((with_reducible refine WL.isN_call ?_); first | refine WL.step rfl (StepTo.callV (v := .bool true) (us := []) rfl rfl rfl rfl rfl (by kernel_rfl) (fun w _ => oshown_any w) ?_) | refine WL.yld rfl (Yld.lenSlice rfl rfl rfl) ?_ | refine WL.yld rfl (Yld.lenStr rfl rfl rfl) ?_)
    | ((with_reducible refine WL.isT ?_); first | refine WL.skipT rfl rfl rfl rfl gdQ ?_ | refine WL.skipU rfl rfl rfl rfl ?_ | refine WL.runT rfl rfl rfl gdQ ?_)
    | ((with_reducible refine WL.isF ?_); first | refine WL.skipF rfl rfl rfl rfl gdQ ?_ | refine WL.skipU rfl rfl rfl rfl ?_ | refine WL.runF rfl rfl rfl gdQ ?_)
    | ((with_reducible refine WL.isN_alloc ?_); first | refine WL.step rfl (StepTo.allocA rfl rfl rfl rfl (fun _ => ?_)) | refine WL.step rfl (StepTo.alloc1 rfl rfl rfl rfl rfl (fun _ => ?_)))
    | ((with_reducible refine WL.isN_store ?_); first | refine WL.step rfl (StepTo.st1 rfl rfl rfl rfl rfl rfl ?_) | refine WL.step rfl (StepTo.stA rfl rfl rfl rfl rfl rfl rfl ?_) | refine WL.step rfl (StepTo.stR rfl rfl rfl rfl rfl rfl rfl ?_))
    | with_reducible refine WC.block ?_
    | with_reducible refine WC.scope ?_
    | with_reducible refine WC.label ?_
    | with_reducible refine WQ.ngN ?_
    | with_reducible refine WQ.ngR ?_
    | with_reducible refine WQ.ngX ?_
    | with_reducible refine WC.skip ?_
    | with_reducible refine WC.ret ?_
    | with_reducible refine WC.exit ?_
    | with_reducible refine WQ.thenR ?_
    | with_reducible refine WQ.thenX ?_
    | with_reducible refine WQ.blkN ?_
    | with_reducible refine WQ.blkR ?_
    | ((with_reducible refine WQ.blkX ?_ ?_); focus rfl)
    | ((with_reducible refine WQ.blkY ?_ ?_); focus rfl)
    | refine WC.condT rfl ?_
    | refine WC.condF rfl ?_
    | refine WC.condTh rfl gdQ ?_
    | refine WC.condFh rfl gdQ ?_
    | (refine WC.cond rfl (fun hc => ?_) (fun hc => ?_) <;> (try first | (with_reducible replace hc := of_decide_eq_true hc) | (with_reducible replace hc := of_decide_eq_false hc) | (with_reducible replace hc := eqT hc) | (with_reducible replace hc := eqF hc) | (with_reducible replace hc := neT hc) | (with_reducible replace hc := neF hc) | (with_reducible replace hc := noT hc) | (with_reducible replace hc := noF hc)) <;> (try (exfalso; omega)))
    | exact WQ.body (Reads.tmp rfl rfl) (fun _ hw' => ⟨ret_bool gdQ, hw'.ext.below⟩))
  repeat' (first
    | with_reducible refine WL.nil ?_
    | with_reducible refine WQ.thenN ?_
    | with_reducible refine WQ.code ?_
    | with_reducible refine WC.seq ?_
    | with_reducible refine WC.region ?_
    | ((with_reducible refine WL.isN_move ?_); first | refine WL.yld rfl (Yld.pure rfl nrmQ) ?_)
    | ((with_reducible refine WL.isN_assign ?_); first | refine WL.yld rfl (Yld.pure rfl nrmQ) ?_)
    | ((with_reducible refine WL.isN_bin ?_); first | refine WL.yld rfl (Yld.pure rfl nrmQ) ?_ | refine WL.yld rfl (Yld.rem rfl rfl rfl rfl (by omega) (by omega)) ?_ | refine WL.yld rfl (Yld.quo rfl rfl rfl rfl (by omega) (by omega) nrmQ) ?_ | refine WL.yld rfl (Yld.eqlB rfl rfl rfl rfl) ?_ | refine WL.yld rfl (Yld.neqB rfl rfl rfl rfl) ?_ | refine WL.yld rfl (Yld.eqlA 4 rfl rfl rfl (by kernel_rfl) (by kernel_rfl) rfl rfl) ?_ | refine WL.yld rfl (Yld.neqA 4 rfl rfl rfl (by kernel_rfl) (by kernel_rfl) rfl rfl) ?_ | refine WL.yld rfl (Yld.quoT rfl rfl rfl rfl (by omega) nrmQ) ?_)
    | ((with_reducible refine WL.isN_un ?_); first | refine WL.yld rfl (Yld.pure rfl nrmQ) ?_)
    | ((with_reducible refine WL.isN_extract ?_); first | refine WL.yld rfl (Yld.pure rfl nrmQ) ?_)
    | ((with_reducible refine WL.isN_load ?_); first | refine WL.yld rfl (Yld.load rfl rfl rfl rfl cellQ) ?_ | refine WL.yld rfl (Yld.loadAgg rfl rfl rfl rfl rfl aggQ) ?_)
    | ((with_reducible refine WL.isN_faddr ?_); first | refine WL.yld rfl (Yld.fieldAddr rfl rfl rfl rfl rfl rfl rfl) ?_)
    | ((with_reducible refine WL.isN_iaddr ?_); first | refine WL.yld rfl (Yld.indexS 0 rfl rfl rfl rfl rfl rfl (by omega)) ?_ | refine WL.yld rfl (Yld.indexS 1 rfl rfl rfl rfl rfl rfl (by omega)) ?_ | refine WL.yld rfl (Yld.indexS 2 rfl rfl rfl rfl rfl rfl (by omega)) ?_ | refine WL.yld rfl (Yld.indexS _ rfl rfl rfl rfl rfl rfl (by omega)) ?_ | refine WL.yld rfl (Yld.indexA 0 rfl rfl rfl rfl rfl rfl (by omega)) ?_ | refine WL.yld rfl (Yld.indexA 1 rfl rfl rfl rfl rfl rfl (by omega)) ?_ | refine WL.yld rfl (Yld.indexA _ rfl rfl rfl rfl rfl rfl (by omega)) ?_)
    | ((with_reducible refine WL.isN_pick ?_); first | refine WL.yld rfl (Yld.pickT rfl rfl rfl) ?_ | refine WL.yld rfl (Yld.pickF rfl rfl rfl) ?_ | refine WL.yld rfl (Yld.pickTh rfl rfl gdQ rfl) ?_ | refine WL.yld rfl (Yld.pickFh rfl rfl gdQ rfl) ?_ | refine WL.yld rfl (Yld.pickB rfl rfl rfl rfl) ?_)
    | ((with_reducible refine WL.isN_call ?_); first | refine WL.step rfl (StepTo.callV (v := .bool true) (us := []) rfl rfl rfl rfl rfl (by kernel_rfl) (fun w _ => oshown_any w) ?_) | refine WL.step rfl (StepTo.callN [] (us := [.int .i64 s]) rfl rfl rfl rfl rfl (by kernel_rfl) (fun w _ => hnew w _) ?_) | refine WL.yld rfl (Yld.lenSlice rfl rfl rfl) ?_ | refine WL.yld rfl (Yld.lenStr rfl rfl rfl) ?_)
    | ((with_reducible refine WL.isT ?_); first | refine WL.skipT rfl rfl rfl rfl gdQ ?_ | refine WL.skipU rfl rfl rfl rfl ?_ | refine WL.runT rfl rfl rfl gdQ ?_)
    | ((with_reducible refine WL.isF ?_); first | refine WL.skipF rfl rfl rfl rfl gdQ ?_ | refine WL.skipU rfl rfl rfl rfl ?_ | refine WL.runF rfl rfl rfl gdQ ?_)
    | ((with_reducible refine WL.isN_alloc ?_); first | refine WL.step rfl (StepTo.allocA rfl rfl rfl rfl (fun _ => ?_)) | refine WL.step rfl (StepTo.alloc1 rfl rfl rfl rfl rfl (fun _ => ?_)))
    | ((with_reducible refine WL.isN_store ?_); first | refine WL.step rfl (StepTo.st1 rfl rfl rfl rfl rfl rfl ?_) | refine WL.step rfl (StepTo.stA rfl rfl rfl rfl rfl rfl rfl ?_) | refine WL.step rfl (StepTo.stR rfl rfl rfl rfl rfl rfl rfl ?_))
    | with_reducible refine WC.block ?_
    | with_reducible refine WC.scope ?_
    | with_reducible refine WC.label ?_
    | with_reducible refine WQ.ngN ?_
    | with_reducible refine WQ.ngR ?_
    | with_reducible refine WQ.ngX ?_
    | with_reducible refine WC.skip ?_
    | with_reducible refine WC.ret ?_
    | with_reducible refine WC.exit ?_
    | with_reducible refine WQ.thenR ?_
    | with_reducible refine WQ.thenX ?_
    | with_reducible refine WQ.blkN ?_
    | with_reducible refine WQ.blkR ?_
    | ((with_reducible refine WQ.blkX ?_ ?_); focus rfl)
    | ((with_reducible refine WQ.blkY ?_ ?_); focus rfl)
    | refine WC.condT rfl ?_
    | refine WC.condF rfl ?_
    | refine WC.condTh rfl gdQ ?_
    | refine WC.condFh rfl gdQ ?_
    | (refine WC.cond rfl (fun hc => ?_) (fun hc => ?_) <;> (try first | (with_reducible replace hc := of_decide_eq_true hc) | (with_reducible replace hc := of_decide_eq_false hc) | (with_reducible replace hc := eqT hc) | (with_reducible replace hc := eqF hc) | (with_reducible replace hc := neT hc) | (with_reducible replace hc := neF hc) | (with_reducible replace hc := noT hc) | (with_reducible replace hc := noF hc)) <;> (try (exfalso; omega))))
  rintro v N ⟨AN, cN, rfl, rfl, okN⟩
  repeat' (first
    | with_reducible refine WL.nil ?_
    | with_reducible refine WQ.thenN ?_
    | with_reducible refine WQ.code ?_
    | with_reducible refine WC.seq ?_
    | with_reducible refine WC.region ?_
    | ((with_reducible refine WL.isN_move ?_); first | refine WL.yld rfl (Yld.pure rfl nrmQ) ?_)
    | ((with_reducible refine WL.isN_assign ?_); first | refine WL.yld rfl (Yld.pure rfl nrmQ) ?_)
    | ((with_reducible refine WL.isN_bin ?_); first | refine WL.yld rfl (Yld.pure rfl nrmQ) ?_ | refine WL.yld rfl (Yld.rem rfl rfl rfl rfl (by omega) (by omega)) ?_ | refine WL.yld rfl (Yld.quo rfl rfl rfl rfl (by omega) (by omega) nrmQ) ?_ | refine WL.yld rfl (Yld.eqlB rfl rfl rfl rfl) ?_ | refine WL.yld rfl (Yld.neqB rfl rfl rfl rfl) ?_ | refine WL.yld rfl (Yld.eqlA 4 rfl rfl rfl (by kernel_rfl) (by kernel_rfl) rfl rfl) ?_ | refine WL.yld rfl (Yld.neqA 4 rfl rfl rfl (by kernel_rfl) (by kernel_rfl) rfl rfl) ?_ | refine WL.yld rfl (Yld.quoT rfl rfl rfl rfl (by omega) nrmQ) ?_)
    | ((with_reducible refine WL.isN_un ?_); first | refine WL.yld rfl (Yld.pure rfl nrmQ) ?_)
    | ((with_reducible refine WL.isN_extract ?_); first | refine WL.yld rfl (Yld.pure rfl nrmQ) ?_)
    | ((with_reducible refine WL.isN_load ?_); first | refine WL.yld rfl (Yld.load rfl rfl rfl rfl cellQ) ?_ | refine WL.yld rfl (Yld.loadAgg rfl rfl rfl rfl rfl aggQ) ?_)
    | ((with_reducible refine WL.isN_faddr ?_); first | refine WL.yld rfl (Yld.fieldAddr rfl rfl rfl rfl rfl rfl rfl) ?_)
    | ((with_reducible refine WL.isN_iaddr ?_); first | refine WL.yld rfl (Yld.indexS 0 rfl rfl rfl rfl rfl rfl (by omega)) ?_ | refine WL.yld rfl (Yld.indexS 1 rfl rfl rfl rfl rfl rfl (by omega)) ?_ | refine WL.yld rfl (Yld.indexS 2 rfl rfl rfl rfl rfl rfl (by omega)) ?_ | refine WL.yld rfl (Yld.indexS _ rfl rfl rfl rfl rfl rfl (by omega)) ?_ | refine WL.yld rfl (Yld.indexA 0 rfl rfl rfl rfl rfl rfl (by omega)) ?_ | refine WL.yld rfl (Yld.indexA 1 rfl rfl rfl rfl rfl rfl (by omega)) ?_ | refine WL.yld rfl (Yld.indexA _ rfl rfl rfl rfl rfl rfl (by omega)) ?_)
    | ((with_reducible refine WL.isN_pick ?_); first | refine WL.yld rfl (Yld.pickT rfl rfl rfl) ?_ | refine WL.yld rfl (Yld.pickF rfl rfl rfl) ?_ | refine WL.yld rfl (Yld.pickTh rfl rfl gdQ rfl) ?_ | refine WL.yld rfl (Yld.pickFh rfl rfl gdQ rfl) ?_ | refine WL.yld rfl (Yld.pickB rfl rfl rfl rfl) ?_)
    | ((with_reducible refine WL.isN_call ?_); first | refine WL.step rfl (StepTo.callN [] (us := [.int .i64 s]) rfl rfl rfl rfl rfl (by kernel_rfl) (fun w _ => hrnew w _) ?_) | refine WL.yld rfl (Yld.lenSlice rfl rfl rfl) ?_ | refine WL.yld rfl (Yld.lenStr rfl rfl rfl) ?_)
    | ((with_reducible refine WL.isT ?_); first | refine WL.skipT rfl rfl rfl rfl gdQ ?_ | refine WL.skipU rfl rfl rfl rfl ?_ | refine WL.runT rfl rfl rfl gdQ ?_)
    | ((with_reducible refine WL.isF ?_); first | refine WL.skipF rfl rfl rfl rfl gdQ ?_ | refine WL.skipU rfl rfl rfl rfl ?_ | refine WL.runF rfl rfl rfl gdQ ?_)
    | ((with_reducible refine WL.isN_alloc ?_); first | refine WL.step rfl (StepTo.allocA rfl rfl rfl rfl (fun _ => ?_)) | refine WL.step rfl (StepTo.alloc1 rfl rfl rfl rfl rfl (fun _ => ?_)))
    | ((with_reducible refine WL.isN_store ?_); first | refine WL.step rfl (StepTo.st1 rfl rfl rfl rfl rfl rfl ?_) | refine WL.step rfl (StepTo.stA rfl rfl rfl rfl rfl rfl rfl ?_) | refine WL.step rfl (StepTo.stR rfl rfl rfl rfl rfl rfl rfl ?_))
    | with_reducible refine WC.block ?_
    | with_reducible refine WC.scope ?_
    | with_reducible refine WC.label ?_
    | with_reducible refine WQ.ngN ?_
    | with_reducible refine WQ.ngR ?_
    | with_reducible refine WQ.ngX ?_
    | with_reducible refine WC.skip ?_
    | with_reducible refine WC.ret ?_
    | with_reducible refine WC.exit ?_
    | with_reducible refine WQ.thenR ?_
    | with_reducible refine WQ.thenX ?_
    | with_reducible refine WQ.blkN ?_
    | with_reducible refine WQ.blkR ?_
    | ((with_reducible refine WQ.blkX ?_ ?_); focus rfl)
    | ((with_reducible refine WQ.blkY ?_ ?_); focus rfl)
    | refine WC.condT rfl ?_
    | refine WC.condF rfl ?_
    | refine WC.condTh rfl gdQ ?_
    | refine WC.condFh rfl gdQ ?_
    | (refine WC.cond rfl (fun hc => ?_) (fun hc => ?_) <;> (try first | (with_reducible replace hc := of_decide_eq_true hc) | (with_reducible replace hc := of_decide_eq_false hc) | (with_reducible replace hc := eqT hc) | (with_reducible replace hc := eqF hc) | (with_reducible replace hc := neT hc) | (with_reducible replace hc := neF hc) | (with_reducible replace hc := noT hc) | (with_reducible replace hc := noF hc)) <;> (try (exfalso; omega))))
  rintro v N ⟨BN, dN, rfl, rfl, okB⟩
  refine WL.nilVw 6 ?_
  refine WL.nilVw 6 ?_
  repeat' (first
    | with_reducible refine WL.nil ?_
    | with_reducible refine WQ.thenN ?_
    | with_reducible refine WQ.code ?_
    | with_reducible refine WC.seq ?_
    | with_reducible refine WC.region ?_
    | ((with_reducible refine WL.isN_move ?_); first | refine WL.yld rfl (Yld.pure rfl nrmQ) ?_)
    | ((with_reducible refine WL.isN_assign ?_); first | refine WL.yld rfl (Yld.pure rfl nrmQ) ?_)
    | ((with_reducible refine WL.isN_bin ?_); first | refine WL.yld rfl (Yld.pure rfl nrmQ) ?_ | refine WL.yld rfl (Yld.rem rfl rfl rfl rfl (by omega) (by omega)) ?_ | refine WL.yld rfl (Yld.quo rfl rfl rfl rfl (by omega) (by omega) nrmQ) ?_ | refine WL.yld rfl (Yld.eqlB rfl rfl rfl rfl) ?_ | refine WL.yld rfl (Yld.neqB rfl rfl rfl rfl) ?_ | refine WL.yld rfl (Yld.eqlA 4 rfl rfl rfl (by kernel_rfl) (by kernel_rfl) rfl rfl) ?_ | refine WL.yld rfl (Yld.neqA 4 rfl rfl rfl (by kernel_rfl) (by kernel_rfl) rfl rfl) ?_ | refine WL.yld rfl (Yld.quoT rfl rfl rfl rfl (by omega) nrmQ) ?_)
    | ((with_reducible refine WL.isN_un ?_); first | refine WL.yld rfl (Yld.pure rfl nrmQ) ?_)
    | ((with_reducible refine WL.isN_extract ?_); first | refine WL.yld rfl (Yld.pure rfl nrmQ) ?_)
    | ((with_reducible refine WL.isN_load ?_); first | refine WL.yld rfl (Yld.load rfl rfl rfl rfl cellQ) ?_ | refine WL.yld rfl (Yld.loadAgg rfl rfl rfl rfl rfl aggQ) ?_)
    | ((with_reducible refine WL.isN_faddr ?_); first | refine WL.yld rfl (Yld.fieldAddr rfl rfl rfl rfl rfl rfl rfl) ?_)
    | ((with_reducible refine WL.isN_iaddr ?_); first | refine WL.yld rfl (Yld.indexS 0 rfl rfl rfl rfl rfl rfl (by omega)) ?_ | refine WL.yld rfl (Yld.indexS 1 rfl rfl rfl rfl rfl rfl (by omega)) ?_ | refine WL.yld rfl (Yld.indexS 2 rfl rfl rfl rfl rfl rfl (by omega)) ?_ | refine WL.yld rfl (Yld.indexS _ rfl rfl rfl rfl rfl rfl (by omega)) ?_ | refine WL.yld rfl (Yld.indexA 0 rfl rfl rfl rfl rfl rfl (by omega)) ?_ | refine WL.yld rfl (Yld.indexA 1 rfl rfl rfl rfl rfl rfl (by omega)) ?_ | refine WL.yld rfl (Yld.indexA _ rfl rfl rfl rfl rfl rfl (by omega)) ?_)
    | ((with_reducible refine WL.isN_pick ?_); first | refine WL.yld rfl (Yld.pickT rfl rfl rfl) ?_ | refine WL.yld rfl (Yld.pickF rfl rfl rfl) ?_ | refine WL.yld rfl (Yld.pickTh rfl rfl gdQ rfl) ?_ | refine WL.yld rfl (Yld.pickFh rfl rfl gdQ rfl) ?_ | refine WL.yld rfl (Yld.pickB rfl rfl rfl rfl) ?_)
    | ((with_reducible refine WL.isN_call ?_); first | refine WL.step rfl (StepTo.callV (v := .bool true) (us := [.agg #[.slice AN k cN, .slice none 0 0], .agg #[.slice BN k dN, .slice none 0 0]]) rfl rfl rfl rfl rfl (by kernel_rfl) (fun w hw => same_n AN k cN none 0 0 BN k dN none 0 0 (List.replicate k 0) [] w (hw.lst 5 u16c_len (by omega) rfl) (hw.lst 1 Msg.cs_len (by omega) rfl) (hw.lst 3 u16c_len (by omega) rfl) (hw.lst 1 Msg.cs_len (by omega) rfl) (by simp; omega) (by simp)) ?_) | refine WL.yld rfl (Yld.lenSlice rfl rfl rfl) ?_ | refine WL.yld rfl (Yld.lenStr rfl rfl rfl) ?_)
    | ((with_reducible refine WL.isT ?_); first | refine WL.skipT rfl rfl rfl rfl gdQ ?_ | refine WL.skipU rfl rfl rfl rfl ?_ | refine WL.runT rfl rfl rfl gdQ ?_)
    | ((with_reducible refine WL.isF ?_); first | refine WL.skipF rfl rfl rfl rfl gdQ ?_ | refine WL.skipU rfl rfl rfl rfl ?_ | refine WL.runF rfl rfl rfl gdQ ?_)
    | ((with_reducible refine WL.isN_alloc ?_); first | refine WL.step rfl (StepTo.allocA rfl rfl rfl rfl (fun _ => ?_)) | refine WL.step rfl (StepTo.alloc1 rfl rfl rfl rfl rfl (fun _ => ?_)))
    | ((with_reducible refine WL.isN_store ?_); first | refine WL.step rfl (StepTo.st1 rfl rfl rfl rfl rfl rfl ?_) | refine WL.step rfl (StepTo.stA rfl rfl rfl rfl rfl rfl rfl ?_) | refine WL.step rfl (StepTo.stR rfl rfl rfl rfl rfl rfl rfl ?_))
    | with_reducible refine WC.block ?_
    | with_reducible refine WC.scope ?_
    | with_reducible refine WC.label ?_
    | with_reducible refine WQ.ngN ?_
    | with_reducible refine WQ.ngR ?_
    | with_reducible refine WQ.ngX ?_
    | with_reducible refine WC.skip ?_
    | with_reducible refine WC.ret ?_
    | with_reducible refine WC.exit ?_
    | with_reducible refine WQ.thenR ?_
    | with_reducible refine WQ.thenX ?_
    | with_reducible refine WQ.blkN ?_
    | with_reducible refine WQ.blkR ?_
    | ((with_reducible refine WQ.blkX ?_ ?_); focus rfl)
    | ((with_reducible refine WQ.blkY ?_ ?_); focus rfl)
    | refine WC.condT rfl ?_
    | refine WC.condF rfl ?_
    | refine WC.condTh rfl gdQ ?_
    | refine WC.condFh rfl gdQ ?_
    | (refine WC.cond rfl (fun hc => ?_) (fun hc => ?_) <;> (try first | (with_reducible replace hc := of_decide_eq_true hc) | (with_reducible replace hc := of_decide_eq_false hc) | (with_reducible replace hc := eqT hc) | (with_reducible replace hc := eqF hc) | (with_reducible replace hc := neT hc) | (with_reducible replace hc := neF hc) | (with_reducible replace hc := noT hc) | (with_reducible replace hc := noF hc)) <;> (try (exfalso; omega))))
  rename_i bq br
  refine WC.loop (fun mm τ H => ∃ (i : Nat) (AN AW BN BW : Option Addr) (cN nW cW dN dW : Nat) (next : List Int) (wait : List Msg), i ≤ n ∧ mm = n - i ∧ QOk k i PM next wait ∧ wait.length = nW ∧ okA AN k ∧ okA AW nW ∧ okA BN k ∧ okA BW nW ∧
      τ = [(1, .slice A n c), (6, .pointer (some ⟨bq, 0, none⟩)), (8, .pointer (some ⟨br, 0, none⟩)), (10, .int .i64 i)] ∧
      H = [.box br 50 [.slice BN k dN, .slice BW nW dW], .vw BN k 1 (flat u16c next), .vw BW nW 6 (flat Msg.cs wait), .box bq 27 [.slice AN k cN, .slice AW nW cW], .vw AN k 1 (flat u16c next), .vw AW nW 6 (flat Msg.cs wait), .vw A n 8 (flat OAct.cs xs)])
    n _ _ [0, 3, 1, 4, 5, 2, 6] ?_ ?_ ⟨0, AN, none, BN, none, cN, 0, 0, dN, 0, List.replicate k 0, [], by omega, rfl, QOk.new k _, rfl, okN, okA_nil, okB, okA_nil, rfl, rfl⟩ ?_
  · exact (by repeat (first | exact Sub.nil | refine Sub.cons rfl ?_ | refine Sub.consE rfl (int_eq (by omega)) ?_))
  · exact ⟨by decide, rfl⟩
  rintro mm τ H ⟨i, AN, AW, BN, BW, cN, nW, cW, dN, dW, next, wait, hi, rfl, hq, lW, okN, okW, okB, okC, rfl, rfl⟩
  have lN := hq.len
  have hwn := hq.most
  by_cases hlt : i < n
  · obtain ⟨x, hx⟩ : ∃ x, xs[i]? = some x := ⟨_, List.getElem?_eq_getElem (by omega)⟩
    obtain ⟨hop, hto, hU, hV⟩ := hxs x (List.mem_of_getElem? hx)
    have hpx : PartAt (flat OAct.cs xs) (i * 8) x.cs := PartAt.flat OAct.cs_len hx
    refine WC.vwAt 6 rfl (by omega) fun b off hA => ?_
    subst hA
    by_cases ht : 300 < x.m.text.size
    · repeat' (first
    | with_reducible refine WL.nil ?_
    | with_reducible refine WQ.thenN ?_
    | with_reducible refine WQ.code ?_
    | with_reducible refine WC.seq ?_
    | with_reducible refine WC.region ?_
    | ((with_reducible refine WL.isN_move ?_); first | refine WL.yld rfl (Yld.pure rfl nrmQ) ?_)
    | ((with_reducible refine WL.isN_assign ?_); first | refine WL.yld rfl (Yld.pure rfl nrmQ) ?_)
    | ((with_reducible refine WL.isN_bin ?_); first | refine WL.yld rfl (Yld.pure rfl nrmQ) ?_ | refine WL.yld rfl (Yld.rem rfl rfl rfl rfl (by omega) (by omega)) ?_ | refine WL.yld rfl (Yld.quo rfl rfl rfl rfl (by omega) (by omega) nrmQ) ?_ | refine WL.yld rfl (Yld.eqlB rfl rfl rfl rfl) ?_ | refine WL.yld rfl (Yld.neqB rfl rfl rfl rfl) ?_ | refine WL.yld rfl (Yld.eqlA 4 rfl rfl rfl (by kernel_rfl) (by kernel_rfl) rfl rfl) ?_ | refine WL.yld rfl (Yld.neqA 4 rfl rfl rfl (by kernel_rfl) (by kernel_rfl) rfl rfl) ?_ | refine WL.yld rfl (Yld.quoT rfl rfl rfl rfl (by omega) nrmQ) ?_)
    | ((with_reducible refine WL.isN_un ?_); first | refine WL.yld rfl (Yld.pure rfl nrmQ) ?_)
    | ((with_reducible refine WL.isN_extract ?_); first | refine WL.yld rfl (Yld.pure rfl nrmQ) ?_)
    | ((with_reducible refine WL.isN_load ?_); first | refine WL.yld rfl (Yld.load rfl rfl rfl rfl (CellAt.vwPP 6 2 rfl (by omega) hpx rfl)) ?_ | refine WL.yld rfl (Yld.load rfl rfl rfl rfl cellQ) ?_ | refine WL.yld rfl (Yld.loadAgg rfl rfl rfl rfl rfl aggQ) ?_)
    | ((with_reducible refine WL.isN_faddr ?_); first | refine WL.yld rfl (Yld.fieldAddr rfl rfl rfl rfl rfl rfl rfl) ?_)
    | ((with_reducible refine WL.isN_iaddr ?_); first | refine WL.yld rfl (Yld.indexS 0 rfl rfl rfl rfl rfl rfl (by omega)) ?_ | refine WL.yld rfl (Yld.indexS 1 rfl rfl rfl rfl rfl rfl (by omega)) ?_ | refine WL.yld rfl (Yld.indexS 2 rfl rfl rfl rfl rfl rfl (by omega)) ?_ | refine WL.yld rfl (Yld.indexS _ rfl rfl rfl rfl rfl rfl (by omega)) ?_ | refine WL.yld rfl (Yld.indexA 0 rfl rfl rfl rfl rfl rfl (by omega)) ?_ | refine WL.yld rfl (Yld.indexA 1 rfl rfl rfl rfl rfl rfl (by omega)) ?_ | refine WL.yld rfl (Yld.indexA _ rfl rfl rfl rfl rfl rfl (by omega)) ?_)
    | ((with_reducible refine WL.isN_pick ?_); first | refine WL.yld rfl (Yld.pickT rfl rfl rfl) ?_ | refine WL.yld rfl (Yld.pickF rfl rfl rfl) ?_ | refine WL.yld rfl (Yld.pickTh rfl rfl gdQ rfl) ?_ | refine WL.yld rfl (Yld.pickFh rfl rfl gdQ rfl) ?_ | refine WL.yld rfl (Yld.pickB rfl rfl rfl rfl) ?_)
    | ((with_reducible refine WL.isN_call ?_); first | refine WL.yld rfl (Yld.lenSlice rfl rfl rfl) ?_ | refine WL.yld rfl (Yld.lenStr rfl rfl rfl) ?_)
    | ((with_reducible refine WL.isT ?_); first | refine WL.skipT rfl rfl rfl rfl gdQ ?_ | refine WL.skipU rfl rfl rfl rfl ?_ | refine WL.runT rfl rfl rfl gdQ ?_)
    | ((with_reducible refine WL.isF ?_); first | refine WL.skipF rfl rfl rfl rfl gdQ ?_ | refine WL.skipU rfl rfl rfl rfl ?_ | refine WL.runF rfl rfl rfl gdQ ?_)
    | ((with_reducible refine WL.isN_alloc ?_); first | refine WL.step rfl (StepTo.allocA rfl rfl rfl rfl (fun _ => ?_)) | refine WL.step rfl (StepTo.alloc1 rfl rfl rfl rfl rfl (fun _ => ?_)))
    | ((with_reducible refine WL.isN_store ?_); first | refine WL.step rfl (StepTo.st1 rfl rfl rfl rfl rfl rfl ?_) | refine WL.step rfl (StepTo.stA rfl rfl rfl rfl rfl rfl rfl ?_) | refine WL.step rfl (StepTo.stR rfl rfl rfl rfl rfl rfl rfl ?_))
    | with_reducible refine WC.block ?_
    | with_reducible refine WC.scope ?_
    | with_reducible refine WC.label ?_
    | with_reducible refine WQ.ngN ?_
    | with_reducible refine WQ.ngR ?_
    | with_reducible refine WQ.ngX ?_
    | with_reducible refine WC.skip ?_
    | with_reducible refine WC.ret ?_
    | with_reducible refine WC.exit ?_
    | with_reducible refine WQ.thenR ?_
    | with_reducible refine WQ.thenX ?_
    | with_reducible refine WQ.blkN ?_
    | with_reducible refine WQ.blkR ?_
    | ((with_reducible refine WQ.blkX ?_ ?_); focus rfl)
    | ((with_reducible refine WQ.blkY ?_ ?_); focus rfl)
    | refine WC.condT rfl ?_
    | refine WC.condF rfl ?_
    | refine WC.condTh rfl gdQ ?_
    | refine WC.condFh rfl gdQ ?_
    | (refine WC.cond rfl (fun hc => ?_) (fun hc => ?_) <;> (try first | (with_reducible replace hc := of_decide_eq_true hc) | (with_reducible replace hc := of_decide_eq_false hc) | (with_reducible replace hc := eqT hc) | (with_reducible replace hc := eqF hc) | (with_reducible replace hc := neT hc) | (with_reducible replace hc := neF hc) | (with_reducible replace hc := noT hc) | (with_reducible replace hc := noF hc)) <;> (try (exfalso; omega)))
    | exact WQ.body (Reads.tmp rfl rfl) (fun _ hw' => ⟨ret_bool gdQ, hw'.ext.below⟩))
    have hP : PM x.m := ⟨hU, hV, by omega⟩
    repeat' (first
    | with_reducible refine WL.nil ?_
    | with_reducible refine WQ.thenN ?_
    | with_reducible refine WQ.code ?_
    | with_reducible refine WC.seq ?_
    | with_reducible refine WC.region ?_
    | ((with_reducible refine WL.isN_move ?_); first | refine WL.yld rfl (Yld.pure rfl nrmQ) ?_)
    | ((with_reducible refine WL.isN_assign ?_); first | refine WL.yld rfl (Yld.pure rfl nrmQ) ?_)
    | ((with_reducible refine WL.isN_bin ?_); first | refine WL.yld rfl (Yld.pure rfl nrmQ) ?_ | refine WL.yld rfl (Yld.rem rfl rfl rfl rfl (by omega) (by omega)) ?_ | refine WL.yld rfl (Yld.quo rfl rfl rfl rfl (by omega) (by omega) nrmQ) ?_ | refine WL.yld rfl (Yld.eqlB rfl rfl rfl rfl) ?_ | refine WL.yld rfl (Yld.neqB rfl rfl rfl rfl) ?_ | refine WL.yld rfl (Yld.eqlA 4 rfl rfl rfl (by kernel_rfl) (by kernel_rfl) rfl rfl) ?_ | refine WL.yld rfl (Yld.neqA 4 rfl rfl rfl (by kernel_rfl) (by kernel_rfl) rfl rfl) ?_ | refine WL.yld rfl (Yld.quoT rfl rfl rfl rfl (by omega) nrmQ) ?_)
    | ((with_reducible refine WL.isN_un ?_); first | refine WL.yld rfl (Yld.pure rfl nrmQ) ?_)
    | ((with_reducible refine WL.isN_extract ?_); first | refine WL.yld rfl (Yld.pure rfl nrmQ) ?_)
    | ((with_reducible refine WL.isN_load ?_); first | refine WL.yld rfl (Yld.load rfl rfl rfl rfl (CellAt.vwPP 6 2 rfl (by omega) hpx rfl)) ?_ | refine WL.yld rfl (Yld.load rfl rfl rfl rfl cellQ) ?_ | refine WL.yld rfl (Yld.loadAgg rfl rfl rfl rfl rfl aggQ) ?_)
    | ((with_reducible refine WL.isN_faddr ?_); first | refine WL.yld rfl (Yld.fieldAddr rfl rfl rfl rfl rfl rfl rfl) ?_)
    | ((with_reducible refine WL.isN_iaddr ?_); first | refine WL.yld rfl (Yld.indexS 0 rfl rfl rfl rfl rfl rfl (by omega)) ?_ | refine WL.yld rfl (Yld.indexS 1 rfl rfl rfl rfl rfl rfl (by omega)) ?_ | refine WL.yld rfl (Yld.indexS 2 rfl rfl rfl rfl rfl rfl (by omega)) ?_ | refine WL.yld rfl (Yld.indexS _ rfl rfl rfl rfl rfl rfl (by omega)) ?_ | refine WL.yld rfl (Yld.indexA 0 rfl rfl rfl rfl rfl rfl (by omega)) ?_ | refine WL.yld rfl (Yld.indexA 1 rfl rfl rfl rfl rfl rfl (by omega)) ?_ | refine WL.yld rfl (Yld.indexA _ rfl rfl rfl rfl rfl rfl (by omega)) ?_)
    | ((with_reducible refine WL.isN_pick ?_); first | refine WL.yld rfl (Yld.pickT rfl rfl rfl) ?_ | refine WL.yld rfl (Yld.pickF rfl rfl rfl) ?_ | refine WL.yld rfl (Yld.pickTh rfl rfl gdQ rfl) ?_ | refine WL.yld rfl (Yld.pickFh rfl rfl gdQ rfl) ?_ | refine WL.yld rfl (Yld.pickB rfl rfl rfl rfl) ?_)
    | ((with_reducible refine WL.isN_call ?_); first | refine WL.yld rfl (Yld.lenSlice rfl rfl rfl) ?_ | refine WL.yld rfl (Yld.lenStr rfl rfl rfl) ?_)
    | ((with_reducible refine WL.isT ?_); first | refine WL.skipT rfl rfl rfl rfl gdQ ?_ | refine WL.skipU rfl rfl rfl rfl ?_ | refine WL.runT rfl rfl rfl gdQ ?_)
    | ((with_reducible refine WL.isF ?_); first | refine WL.skipF rfl rfl rfl rfl gdQ ?_ | refine WL.skipU rfl rfl rfl rfl ?_ | refine WL.runF rfl rfl rfl gdQ ?_)
    | ((with_reducible refine WL.isN_alloc ?_); first | refine WL.step rfl (StepTo.allocA rfl rfl rfl rfl (fun _ => ?_)) | refine WL.step rfl (StepTo.alloc1 rfl rfl rfl rfl rfl (fun _ => ?_)))
    | ((with_reducible refine WL.isN_store ?_); first | refine WL.step rfl (StepTo.st1 rfl rfl rfl rfl rfl rfl ?_) | refine WL.step rfl (StepTo.stA rfl rfl rfl rfl rfl rfl rfl ?_) | refine WL.step rfl (StepTo.stR rfl rfl rfl rfl rfl rfl rfl ?_))
    | with_reducible refine WC.block ?_
    | with_reducible refine WC.scope ?_
    | with_reducible refine WC.label ?_
    | with_reducible refine WQ.ngN ?_
    | with_reducible refine WQ.ngR ?_
    | with_reducible refine WQ.ngX ?_
    | with_reducible refine WC.skip ?_
    | with_reducible refine WC.ret ?_
    | with_reducible refine WC.exit ?_
    | with_reducible refine WQ.thenR ?_
    | with_reducible refine WQ.thenX ?_
    | with_reducible refine WQ.blkN ?_
    | with_reducible refine WQ.blkR ?_
    | ((with_reducible refine WQ.blkX ?_ ?_); focus rfl)
    | ((with_reducible refine WQ.blkY ?_ ?_); focus rfl)
    | refine WC.condT rfl ?_
    | refine WC.condF rfl ?_
    | refine WC.condTh rfl gdQ ?_
    | refine WC.condFh rfl gdQ ?_
    | (refine WC.cond rfl (fun hc => ?_) (fun hc => ?_) <;> (try first | (with_reducible replace hc := of_decide_eq_true hc) | (with_reducible replace hc := of_decide_eq_false hc) | (with_reducible replace hc := eqT hc) | (with_reducible replace hc := eqF hc) | (with_reducible replace hc := neT hc) | (with_reducible replace hc := neF hc) | (with_reducible replace hc := noT hc) | (with_reducible replace hc := noF hc)) <;> (try (exfalso; omega))))
    refine WC.cut (fun τ H => ∃ (ba k1 d1 n1 e1 : Nat) (A1 B1 L : Option Addr) (nl cl : Nat), okA A1 k1 ∧ okA B1 n1 ∧ (actF next wait x false).2.1.length = k1 ∧ (actF next wait x false).2.2.1.length = n1 ∧ (actF next wait x false).2.2.2.length = nl ∧
        τ = [(1, .slice (some ⟨b, off, none⟩) n c), (6, .pointer (some ⟨bq, 0, none⟩)), (8, .pointer (some ⟨br, 0, none⟩)), (10, .int .i64 i), (11, .pointer (some ⟨ba, 0, none⟩)), (12, .slice L nl cl), (13, .int .i64 (actF next wait x false).1)] ∧
        H = [.box ba 27 [.slice A1 k1 d1, .slice B1 n1 e1], .vw A1 k1 1 (flat u16c (actF next wait x false).2.1), .vw B1 n1 6 (flat Msg.cs (actF next wait x false).2.2.1), .vw L nl 6 (flat Msg.cs (actF next wait x false).2.2.2),
          .box br 50 [.slice BN k dN, .slice BW nW dW], .vw BN k 1 (flat u16c next), .vw BW nW 6 (flat Msg.cs wait), .box bq 27 [.slice AN k cN, .slice AW nW cW], .vw AN k 1 (flat u16c next), .vw AW nW 6 (flat Msg.cs wait), .vw (some ⟨b, off, none⟩) n 8 (flat OAct.cs xs)]) ?_ ?_
    refine WC.anyI [3, 6] (by kernel_rfl) ?_
    refine WA.take (idx := [3, 6]) 0 rfl (by kernel_rfl) (by kernel_rfl) (by kernel_rfl) rfl ⟨by decide, rfl⟩ (by first | exact Yld.loadAgg rfl rfl rfl rfl rfl (AggAt.vwPP 1 2 rfl (by omega) hpx rfl) | exact Yld.load rfl rfl rfl rfl cellQ | exact Yld.loadAgg rfl rfl rfl rfl rfl aggQ) ?_
    refine WA.take (idx := [3, 6]) 1 rfl (by kernel_rfl) (by kernel_rfl) (by kernel_rfl) rfl ⟨by decide, rfl⟩ (Yld.pure rfl nrmQ) ?_
    refine WA.take (idx := [3, 6]) 2 rfl (by kernel_rfl) (by kernel_rfl) (by kernel_rfl) rfl ⟨by decide, rfl⟩ (Yld.pure rfl nrmQ) ?_
    refine WA.take (idx := [3, 6]) 3 rfl (by kernel_rfl) (by kernel_rfl) (by kernel_rfl) rfl ⟨by decide, rfl⟩ (by first | exact Yld.indexS 0 rfl rfl rfl rfl rfl rfl (by omega) | exact Yld.indexS 1 rfl rfl rfl rfl rfl rfl (by omega) | exact Yld.indexS 2 rfl rfl rfl rfl rfl rfl (by omega) | exact Yld.indexS _ rfl rfl rfl rfl rfl rfl (by omega) | exact Yld.indexA 0 rfl rfl rfl rfl rfl rfl (by omega) | exact Yld.indexA 1 rfl rfl rfl rfl rfl rfl (by omega) | exact Yld.indexA _ rfl rfl rfl rfl rfl rfl (by omega)) ?_
    refine WA.take (idx := [3, 6]) 4 rfl (by kernel_rfl) (by kernel_rfl) (by kernel_rfl) rfl ⟨by decide, rfl⟩ (Yld.fieldAddr rfl rfl rfl rfl rfl rfl rfl) ?_
    refine WA.take (idx := [3, 6]) 5 rfl (by kernel_rfl) (by kernel_rfl) (by kernel_rfl) rfl ⟨by decide, rfl⟩ (by first | exact Yld.loadAgg rfl rfl rfl rfl rfl (AggAt.vwPP 1 2 rfl (by omega) hpx rfl) | exact Yld.load rfl rfl rfl rfl cellQ | exact Yld.loadAgg rfl rfl rfl rfl rfl aggQ) ?_
    refine WA.two 6 11 (by kernel_rfl) rfl rfl rfl rfl ?_ ?_
    · refine StepTo.callN [4, 5] (us := [.agg #[.slice AN k cN, .slice AW nW cW], .agg #[.int .u32 x.m.first, .bool x.m.free, .int .u16 x.m.stream, .int .u16 x.m.ssn, .int .u32 x.m.ppid, .string x.m.text]]) rfl rfl rfl rfl rfl (by kernel_rfl) (fun w hw => put_s hw 4 5 (m := x.m) rfl rfl okN okW (by omega) (by omega) hU.1 hU.2 hq.nums) ?_
      rintro v N ⟨A1, k1, d1, B1, n1, e1, L, nl, cl, rfl, rfl, q1, q2, l1, l2, l3⟩
      refine ⟨⟨[6, 9], by decide, rfl⟩, ?_⟩
      refine WA.take (idx := [6, 9]) 7 rfl (by kernel_rfl) (by kernel_rfl) (by kernel_rfl) rfl ⟨by decide, rfl⟩ (Yld.pure rfl nrmQ) ?_
      refine WA.take (idx := [6, 9]) 8 rfl (by kernel_rfl) (by kernel_rfl) (by kernel_rfl) rfl ⟨by decide, rfl⟩ (Yld.pure rfl nrmQ) ?_
      refine WA.take (idx := [6, 9]) 9 rfl (by kernel_rfl) (by kernel_rfl) (by kernel_rfl) rfl ⟨by decide, rfl⟩ (Yld.pure rfl nrmQ) ?_
      refine WA.take (idx := [6, 9]) 10 rfl (by kernel_rfl) (by kernel_rfl) (by kernel_rfl) rfl ⟨by decide, rfl⟩ (Yld.pure rfl nrmQ) ?_
      refine WA.one 11 (by kernel_rfl) rfl rfl ?_
      first | refine StepTo.allocA rfl rfl rfl rfl (fun _ => ⟨⟨[7, 10], by decide, rfl⟩, ?_⟩) | refine StepTo.alloc1 rfl rfl rfl rfl rfl (fun _ => ⟨⟨[7, 10], by decide, rfl⟩, ?_⟩)
      refine WA.one 12 (by kernel_rfl) rfl rfl ?_
      first | refine StepTo.storeA 0 rfl rfl rfl rfl rfl rfl rfl rfl overQ setQ ⟨⟨[7, 10], by decide, rfl⟩, ?_⟩ | refine StepTo.store1 0 rfl rfl rfl rfl rfl rfl rfl overQ setQ ⟨⟨[7, 10], by decide, rfl⟩, ?_⟩
      refine WA.take (idx := [7, 10]) 13 rfl (by kernel_rfl) (by kernel_rfl) (by kernel_rfl) rfl ⟨by decide, rfl⟩ (Yld.pure rfl nrmQ) ?_
      refine WA.take (idx := [7, 10]) 14 rfl (by kernel_rfl) (by kernel_rfl) (by kernel_rfl) rfl ⟨by decide, rfl⟩ (Yld.pure rfl nrmQ) ?_
      refine WA.done (by kernel_rfl) ?_
      exact WQ.thenN (WQ.met _ _ [0, 1, 2, 3, 4, 5, 6, 7, 8, 9, 10] (by repeat (first | exact Sub.nil | refine Sub.cons rfl ?_ | refine Sub.consE rfl (int_eq (by omega)) ?_)) ⟨by decide, rfl⟩ ⟨_, k1, d1, n1, e1, A1, B1, L, nl, cl, q1, q2, l1, l2, l3, rfl, rfl⟩)
    · first | refine StepTo.allocA rfl rfl rfl rfl (fun _ => ⟨⟨[4, 7], by decide, rfl⟩, ?_⟩) | refine StepTo.alloc1 rfl rfl rfl rfl rfl (fun _ => ⟨⟨[4, 7], by decide, rfl⟩, ?_⟩)
      refine WA.one 6 (by kernel_rfl) rfl rfl ?_
      refine StepTo.callN [5, 6] (us := [.agg #[.slice AN k cN, .slice AW nW cW], .agg #[.int .u32 x.m.first, .bool x.m.free, .int .u16 x.m.stream, .int .u16 x.m.ssn, .int .u32 x.m.ppid, .string x.m.text]]) rfl rfl rfl rfl rfl (by kernel_rfl) (fun w hw => put_s hw 5 6 (m := x.m) rfl rfl okN okW (by omega) (by omega) hU.1 hU.2 hq.nums) ?_
      rintro v N ⟨A1, k1, d1, B1, n1, e1, L, nl, cl, rfl, rfl, q1, q2, l1, l2, l3⟩
      refine ⟨⟨[7, 10], by decide, rfl⟩, ?_⟩
      refine WA.take (idx := [7, 10]) 7 rfl (by kernel_rfl) (by kernel_rfl) (by kernel_rfl) rfl ⟨by decide, rfl⟩ (Yld.pure rfl nrmQ) ?_
      refine WA.take (idx := [7, 10]) 8 rfl (by kernel_rfl) (by kernel_rfl) (by kernel_rfl) rfl ⟨by decide, rfl⟩ (Yld.pure rfl nrmQ) ?_
      refine WA.take (idx := [7, 10]) 9 rfl (by kernel_rfl) (by kernel_rfl) (by kernel_rfl) rfl ⟨by decide, rfl⟩ (Yld.pure rfl nrmQ) ?_
      refine WA.take (idx := [7, 10]) 10 rfl (by kernel_rfl) (by kernel_rfl) (by kernel_rfl) rfl ⟨by decide, rfl⟩ (Yld.pure rfl nrmQ) ?_
      refine WA.one 12 (by kernel_rfl) rfl rfl ?_
      first | refine StepTo.storeA 3 rfl rfl rfl rfl rfl rfl rfl rfl overQ setQ ⟨⟨[7, 10], by decide, rfl⟩, ?_⟩ | refine StepTo.store1 3 rfl rfl rfl rfl rfl rfl rfl overQ setQ ⟨⟨[7, 10], by decide, rfl⟩, ?_⟩
      refine WA.take (idx := [7, 10]) 13 rfl (by kernel_rfl) (by kernel_rfl) (by kernel_rfl) rfl ⟨by decide, rfl⟩ (Yld.pure rfl nrmQ) ?_
      refine WA.take (idx := [7, 10]) 14 rfl (by kernel_rfl) (by kernel_rfl) (by kernel_rfl) rfl ⟨by decide, rfl⟩ (Yld.pure rfl nrmQ) ?_
      refine WA.done (by kernel_rfl) ?_
      exact WQ.thenN (WQ.met _ _ [3, 0, 1, 2, 4, 5, 6, 7, 8, 9, 10] (by repeat (first | exact Sub.nil | refine Sub.cons rfl ?_ | refine Sub.consE rfl (int_eq (by omega)) ?_)) ⟨by decide, rfl⟩ ⟨_, k1, d1, n1, e1, A1, B1, L, nl, cl, q1, q2, l1, l2, l3, rfl, rfl⟩)
    rintro τ H ⟨ba, k1, d1, n1, e1, A1, B1, L, nl, cl, q1, q2, l1, l2, l3, rfl, rfl⟩
    refine WC.seqCut (fun τ H => ∃ (bb k2 d2 n2 e2 : Nat) (A2 B2 M : Option Addr) (ml cm : Nat), okA A2 k2 ∧ okA B2 n2 ∧ (actF next wait x false).2.1.length = k2 ∧ (actF next wait x false).2.2.1.length = n2 ∧ (actF next wait x false).2.2.2.length = ml ∧
        τ = [(1, .slice (some ⟨b, off, none⟩) n c), (6, .pointer (some ⟨bq, 0, none⟩)), (8, .pointer (some ⟨br, 0, none⟩)), (10, .int .i64 i), (11, .pointer (some ⟨ba, 0, none⟩)), (12, .slice L nl cl), (13, .int .i64 (actF next wait x false).1), (14, .pointer (some ⟨bb, 0, none⟩)), (15, .slice M ml cm), (16, .int .i64 (actF next wait x false).1)] ∧
        H = [.box bb 50 [.slice A2 k2 d2, .slice B2 n2 e2], .vw A2 k2 1 (flat u16c (actF next wait x false).2.1), .vw B2 n2 6 (flat Msg.cs (actF next wait x false).2.2.1), .vw M ml 6 (flat Msg.cs (actF next wait x false).2.2.2),
          .box ba 27 [.slice A1 k1 d1, .slice B1 n1 e1], .vw A1 k1 1 (flat u16c (actF next wait x false).2.1), .vw B1 n1 6 (flat Msg.cs (actF next wait x false).2.2.1), .vw L nl 6 (flat Msg.cs (actF next wait x false).2.2.2),
          .box br 50 [.slice BN k dN, .slice BW nW dW], .vw BN k 1 (flat u16c next), .vw BW nW 6 (flat Msg.cs wait), .box bq 27 [.slice AN k cN, .slice AW nW cW], .vw AN k 1 (flat u16c next), .vw AW nW 6 (flat Msg.cs wait), .vw (some ⟨b, off, none⟩) n 8 (flat OAct.cs xs)]) ?_ ?_
    refine WC.anyI [4, 10] (by kernel_rfl) ?_
    refine WA.take (idx := [4, 10]) 0 rfl (by kernel_rfl) (by kernel_rfl) (by kernel_rfl) rfl ⟨by decide, rfl⟩ (by first | exact Yld.loadAgg rfl rfl rfl rfl rfl (AggAt.vwPP 1 2 rfl (by omega) hpx rfl) | exact Yld.load rfl rfl rfl rfl cellQ | exact Yld.loadAgg rfl rfl rfl rfl rfl aggQ) ?_
    refine WA.take (idx := [4, 10]) 1 rfl (by kernel_rfl) (by kernel_rfl) (by kernel_rfl) rfl ⟨by decide, rfl⟩ (Yld.pure rfl nrmQ) ?_
    refine WA.take (idx := [4, 10]) 2 rfl (by kernel_rfl) (by kernel_rfl) (by kernel_rfl) rfl ⟨by decide, rfl⟩ (Yld.pure rfl nrmQ) ?_
    refine WA.take (idx := [4, 10]) 3 rfl (by kernel_rfl) (by kernel_rfl) (by kernel_rfl) rfl ⟨by decide, rfl⟩ (by first | exact Yld.indexS 0 rfl rfl rfl rfl rfl rfl (by omega) | exact Yld.indexS 1 rfl rfl rfl rfl rfl rfl (by omega) | exact Yld.indexS 2 rfl rfl rfl rfl rfl rfl (by omega) | exact Yld.indexS _ rfl rfl rfl rfl rfl rfl (by omega) | exact Yld.indexA 0 rfl rfl rfl rfl rfl rfl (by omega) | exact Yld.indexA 1 rfl rfl rfl rfl rfl rfl (by omega) | exact Yld.indexA _ rfl rfl rfl rfl rfl rfl (by omega)) ?_
    refine WA.take (idx := [4, 10]) 4 rfl (by kernel_rfl) (by kernel_rfl) (by kernel_rfl) rfl ⟨by decide, rfl⟩ (Yld.fieldAddr rfl rfl rfl rfl rfl rfl rfl) ?_
    refine WA.take (idx := [4, 10]) 5 rfl (by kernel_rfl) (by kernel_rfl) (by kernel_rfl) rfl ⟨by decide, rfl⟩ (by first | exact Yld.loadAgg rfl rfl rfl rfl rfl (AggAt.vwPP 1 2 rfl (by omega) hpx rfl) | exact Yld.load rfl rfl rfl rfl cellQ | exact Yld.loadAgg rfl rfl rfl rfl rfl aggQ) ?_
    refine WA.two 6 12 (by kernel_rfl) rfl rfl rfl rfl ?_ ?_
    · refine StepTo.callV (us := [.agg #[.int .u32 x.m.first, .bool x.m.free, .int .u16 x.m.stream, .int .u16 x.m.ssn, .int .u32 x.m.ppid, .string x.m.text]]) rfl rfl rfl rfl rfl (by kernel_rfl) (fun w _ => one_q x.m w) ⟨⟨[4, 10], by decide, rfl⟩, ?_⟩
      refine WA.two 7 12 (by kernel_rfl) rfl rfl rfl rfl ?_ ?_
      · refine StepTo.callN [5, 6] (us := [.agg #[.slice BN k dN, .slice BW nW dW], .agg #[.int .u32 x.m.first, .bool x.m.free, .int .u16 x.m.stream, .int .u16 x.m.ssn, .int .u32 x.m.ppid, .string x.m.text]]) rfl rfl rfl rfl rfl (by kernel_rfl) (fun w hw => rput_s hw 5 6 (m := x.m) rfl rfl okB okC (by omega) (by omega) hU hV hq.nums (fun m hm => (hq.all m hm).1)) ?_
        rintro v N ⟨A2, k2, d2, B2, n2, e2, M, ml, cm, rfl, rfl, q3, q4, l4, l5, l6⟩
        refine ⟨⟨[7, 13], by decide, rfl⟩, ?_⟩
        refine WA.take (idx := [7, 13]) 8 rfl (by kernel_rfl) (by kernel_rfl) (by kernel_rfl) rfl ⟨by decide, rfl⟩ (Yld.pure rfl nrmQ) ?_
        refine WA.take (idx := [7, 13]) 9 rfl (by kernel_rfl) (by kernel_rfl) (by kernel_rfl) rfl ⟨by decide, rfl⟩ (Yld.pure rfl nrmQ) ?_
        refine WA.take (idx := [7, 13]) 10 rfl (by kernel_rfl) (by kernel_rfl) (by kernel_rfl) rfl ⟨by decide, rfl⟩ (Yld.pure rfl nrmQ) ?_
        refine WA.take (idx := [7, 13]) 11 rfl (by kernel_rfl) (by kernel_rfl) (by kernel_rfl) rfl ⟨by decide, rfl⟩ (Yld.pure rfl nrmQ) ?_
        refine WA.one 12 (by kernel_rfl) rfl rfl ?_
        first | refine StepTo.allocA rfl rfl rfl rfl (fun _ => ⟨⟨[8, 14], by decide, rfl⟩, ?_⟩) | refine StepTo.alloc1 rfl rfl rfl rfl rfl (fun _ => ⟨⟨[8, 14], by decide, rfl⟩, ?_⟩)
        refine WA.one 13 (by kernel_rfl) rfl rfl ?_
        first | refine StepTo.storeA 0 rfl rfl rfl rfl rfl rfl rfl rfl overQ setQ ⟨⟨[8, 14], by decide, rfl⟩, ?_⟩ | refine StepTo.store1 0 rfl rfl rfl rfl rfl rfl rfl overQ setQ ⟨⟨[8, 14], by decide, rfl⟩, ?_⟩
        refine WA.take (idx := [8, 14]) 14 rfl (by kernel_rfl) (by kernel_rfl) (by kernel_rfl) rfl ⟨by decide, rfl⟩ (Yld.pure rfl nrmQ) ?_
        refine WA.take (idx := [8, 14]) 15 rfl (by kernel_rfl) (by kernel_rfl) (by kernel_rfl) rfl ⟨by decide, rfl⟩ (Yld.pure rfl nrmQ) ?_
        refine WA.done (by kernel_rfl) ?_
        exact WQ.thenN (WQ.met _ _ [0, 1, 2, 3, 4, 5, 6, 7, 8, 9, 10, 11, 12, 13, 14] (by repeat (first | exact Sub.nil | refine Sub.cons rfl ?_ | refine Sub.consE rfl (int_eq (by omega)) ?_)) ⟨by decide, rfl⟩ ⟨_, k2, d2, n2, e2, A2, B2, M, ml, cm, q3, q4, l4, l5, l6, rfl, rfl⟩)
      · first | refine StepTo.allocA rfl rfl rfl rfl (fun _ => ⟨⟨[5, 11], by decide, rfl⟩, ?_⟩) | refine StepTo.alloc1 rfl rfl rfl rfl rfl (fun _ => ⟨⟨[5, 11], by decide, rfl⟩, ?_⟩)
        refine WA.one 7 (by kernel_rfl) rfl rfl ?_
        refine StepTo.callN [6, 7] (us := [.agg #[.slice BN k dN, .slice BW nW dW], .agg #[.int .u32 x.m.first, .bool x.m.free, .int .u16 x.m.stream, .int .u16 x.m.ssn, .int .u32 x.m.ppid, .string x.m.text]]) rfl rfl rfl rfl rfl (by kernel_rfl) (fun w hw => rput_s hw 6 7 (m := x.m) rfl rfl okB okC (by omega) (by omega) hU hV hq.nums (fun m hm => (hq.all m hm).1)) ?_
        rintro v N ⟨A2, k2, d2, B2, n2, e2, M, ml, cm, rfl, rfl, q3, q4, l4, l5, l6⟩
        refine ⟨⟨[8, 14], by decide, rfl⟩, ?_⟩
        refine WA.take (idx := [8, 14]) 8 rfl (by kernel_rfl) (by kernel_rfl) (by kernel_rfl) rfl ⟨by decide, rfl⟩ (Yld.pure rfl nrmQ) ?_
        refine WA.take (idx := [8, 14]) 9 rfl (by kernel_rfl) (by kernel_rfl) (by kernel_rfl) rfl ⟨by decide, rfl⟩ (Yld.pure rfl nrmQ) ?_
        refine WA.take (idx := [8, 14]) 10 rfl (by kernel_rfl) (by kernel_rfl) (by kernel_rfl) rfl ⟨by decide, rfl⟩ (Yld.pure rfl nrmQ) ?_
        refine WA.take (idx := [8, 14]) 11 rfl (by kernel_rfl) (by kernel_rfl) (by kernel_rfl) rfl ⟨by decide, rfl⟩ (Yld.pure rfl nrmQ) ?_
        refine WA.one 13 (by kernel_rfl) rfl rfl ?_
        first | refine StepTo.storeA 3 rfl rfl rfl rfl rfl rfl rfl rfl overQ setQ ⟨⟨[8, 14], by decide, rfl⟩, ?_⟩ | refine StepTo.store1 3 rfl rfl rfl rfl rfl rfl rfl overQ setQ ⟨⟨[8, 14], by decide, rfl⟩, ?_⟩
        refine WA.take (idx := [8, 14]) 14 rfl (by kernel_rfl) (by kernel_rfl) (by kernel_rfl) rfl ⟨by decide, rfl⟩ (Yld.pure rfl nrmQ) ?_
        refine WA.take (idx := [8, 14]) 15 rfl (by kernel_rfl) (by kernel_rfl) (by kernel_rfl) rfl ⟨by decide, rfl⟩ (Yld.pure rfl nrmQ) ?_
        refine WA.done (by kernel_rfl) ?_
        exact WQ.thenN (WQ.met _ _ [3, 0, 1, 2, 4, 5, 6, 7, 8, 9, 10, 11, 12, 13, 14] (by repeat (first | exact Sub.nil | refine Sub.cons rfl ?_ | refine Sub.consE rfl (int_eq (by omega)) ?_)) ⟨by decide, rfl⟩ ⟨_, k2, d2, n2, e2, A2, B2, M, ml, cm, q3, q4, l4, l5, l6, rfl, rfl⟩)
    · first | refine StepTo.allocA rfl rfl rfl rfl (fun _ => ⟨⟨[5, 11], by decide, rfl⟩, ?_⟩) | refine StepTo.alloc1 rfl rfl rfl rfl rfl (fun _ => ⟨⟨[5, 11], by decide, rfl⟩, ?_⟩)
      refine WA.one 6 (by kernel_rfl) rfl rfl ?_
      refine StepTo.callV (us := [.agg #[.int .u32 x.m.first, .bool x.m.free, .int .u16 x.m.stream, .int .u16 x.m.ssn, .int .u32 x.m.ppid, .string x.m.text]]) rfl rfl rfl rfl rfl (by kernel_rfl) (fun w _ => one_q x.m w) ⟨⟨[5, 11], by decide, rfl⟩, ?_⟩
      refine WA.one 7 (by kernel_rfl) rfl rfl ?_
      refine StepTo.callN [6, 7] (us := [.agg #[.slice BN k dN, .slice BW nW dW], .agg #[.int .u32 x.m.first, .bool x.m.free, .int .u16 x.m.stream, .int .u16 x.m.ssn, .int .u32 x.m.ppid, .string x.m.text]]) rfl rfl rfl rfl rfl (by kernel_rfl) (fun w hw => rput_s hw 6 7 (m := x.m) rfl rfl okB okC (by omega) (by omega) hU hV hq.nums (fun m hm => (hq.all m hm).1)) ?_
      rintro v N ⟨A2, k2, d2, B2, n2, e2, M, ml, cm, rfl, rfl, q3, q4, l4, l5, l6⟩
      refine ⟨⟨[8, 14], by decide, rfl⟩, ?_⟩
      refine WA.take (idx := [8, 14]) 8 rfl (by kernel_rfl) (by kernel_rfl) (by kernel_rfl) rfl ⟨by decide, rfl⟩ (Yld.pure rfl nrmQ) ?_
      refine WA.take (idx := [8, 14]) 9 rfl (by kernel_rfl) (by kernel_rfl) (by kernel_rfl) rfl ⟨by decide, rfl⟩ (Yld.pure rfl nrmQ) ?_
      refine WA.take (idx := [8, 14]) 10 rfl (by kernel_rfl) (by kernel_rfl) (by kernel_rfl) rfl ⟨by decide, rfl⟩ (Yld.pure rfl nrmQ) ?_
      refine WA.take (idx := [8, 14]) 11 rfl (by kernel_rfl) (by kernel_rfl) (by kernel_rfl) rfl ⟨by decide, rfl⟩ (Yld.pure rfl nrmQ) ?_
      refine WA.one 13 (by kernel_rfl) rfl rfl ?_
      first | refine StepTo.storeA 3 rfl rfl rfl rfl rfl rfl rfl rfl overQ setQ ⟨⟨[8, 14], by decide, rfl⟩, ?_⟩ | refine StepTo.store1 3 rfl rfl rfl rfl rfl rfl rfl overQ setQ ⟨⟨[8, 14], by decide, rfl⟩, ?_⟩
      refine WA.take (idx := [8, 14]) 14 rfl (by kernel_rfl) (by kernel_rfl) (by kernel_rfl) rfl ⟨by decide, rfl⟩ (Yld.pure rfl nrmQ) ?_
      refine WA.take (idx := [8, 14]) 15 rfl (by kernel_rfl) (by kernel_rfl) (by kernel_rfl) rfl ⟨by decide, rfl⟩ (Yld.pure rfl nrmQ) ?_
      refine WA.done (by kernel_rfl) ?_
      exact WQ.thenN (WQ.met _ _ [3, 0, 1, 2, 4, 5, 6, 7, 8, 9, 10, 11, 12, 13, 14] (by repeat (first | exact Sub.nil | refine Sub.cons rfl ?_ | refine Sub.consE rfl (int_eq (by omega)) ?_)) ⟨by decide, rfl⟩ ⟨_, k2, d2, n2, e2, A2, B2, M, ml, cm, q3, q4, l4, l5, l6, rfl, rfl⟩)
    rintro τ H ⟨bb, k2, d2, n2, e2, A2, B2, M, ml, cm, q3, q4, l4, l5, l6, rfl, rfl⟩
    obtain ⟨t, ht4, hpick⟩ := opick4 x.op hop.1 hop.2
    refine WC.seqCut (fun τ H => ∃ (sk : Bool) (k1 d1 n1 e1 : Nat) (A1 B1 L : Option Addr) (nl cl k2 d2 n2 e2 : Nat) (A2 B2 M : Option Addr) (ml cm : Nat), okA A1 k1 ∧ okA B1 n1 ∧ (actF next wait x sk).2.1.length = k1 ∧ (actF next wait x sk).2.2.1.length = n1 ∧ (actF next wait x sk).2.2.2.length = nl ∧ okA A2 k2 ∧ okA B2 n2 ∧ (actF next wait x sk).2.1.length = k2 ∧ (actF next wait x sk).2.2.1.length = n2 ∧ (actF next wait x sk).2.2.2.length = ml ∧
        τ = [(1, .slice (some ⟨b, off, none⟩) n c), (6, .pointer (some ⟨bq, 0, none⟩)), (8, .pointer (some ⟨br, 0, none⟩)), (10, .int .i64 i), (11, .pointer (some ⟨ba, 0, none⟩)), (12, .slice L nl cl), (13, .int .i64 (actF next wait x sk).1), (14, .pointer (some ⟨bb, 0, none⟩)), (15, .slice M ml cm), (16, .int .i64 (actF next wait x sk).1)] ∧
        H = [.box bb 50 [.slice A2 k2 d2, .slice B2 n2 e2], .vw A2 k2 1 (flat u16c (actF next wait x sk).2.1), .vw B2 n2 6 (flat Msg.cs (actF next wait x sk).2.2.1), .vw M ml 6 (flat Msg.cs (actF next wait x sk).2.2.2),
          .box ba 27 [.slice A1 k1 d1, .slice B1 n1 e1], .vw A1 k1 1 (flat u16c (actF next wait x sk).2.1), .vw B1 n1 6 (flat Msg.cs (actF next wait x sk).2.2.1), .vw L nl 6 (flat Msg.cs (actF next wait x sk).2.2.2),
          .box br 50 [.slice BN k dN, .slice BW nW dW], .vw BN k 1 (flat u16c next), .vw BW nW 6 (flat Msg.cs wait), .box bq 27 [.slice AN k cN, .slice AW nW cW], .vw AN k 1 (flat u16c next), .vw AW nW 6 (flat Msg.cs wait), .vw (some ⟨b, off, none⟩) n 8 (flat OAct.cs xs)]) ?_ ?_
    · by_cases ht3 : t = 3
      · subst ht3
        repeat' (first
    | with_reducible refine WL.nil ?_
    | with_reducible refine WQ.thenN ?_
    | with_reducible refine WQ.code ?_
    | with_reducible refine WC.seq ?_
    | with_reducible refine WC.region ?_
    | ((with_reducible refine WL.isN_move ?_); first | refine WL.yld rfl (Yld.pure rfl nrmQ) ?_)
    | ((with_reducible refine WL.isN_assign ?_); first | refine WL.yld rfl (Yld.pure rfl nrmQ) ?_)
    | ((with_reducible refine WL.isN_bin ?_); first | refine WL.yld rfl (Yld.pure rfl nrmQ) ?_ | refine WL.yld rfl (Yld.rem rfl rfl rfl rfl (by omega) (by omega)) ?_ | refine WL.yld rfl (Yld.quo rfl rfl rfl rfl (by omega) (by omega) nrmQ) ?_ | refine WL.yld rfl (Yld.eqlB rfl rfl rfl rfl) ?_ | refine WL.yld rfl (Yld.neqB rfl rfl rfl rfl) ?_ | refine WL.yld rfl (Yld.eqlA 4 rfl rfl rfl (by kernel_rfl) (by kernel_rfl) rfl rfl) ?_ | refine WL.yld rfl (Yld.neqA 4 rfl rfl rfl (by kernel_rfl) (by kernel_rfl) rfl rfl) ?_ | refine WL.yld rfl (Yld.quoT rfl rfl rfl rfl (by omega) nrmQ) ?_)
    | ((with_reducible refine WL.isN_un ?_); first | refine WL.yld rfl (Yld.pure rfl nrmQ) ?_)
    | ((with_reducible refine WL.isN_extract ?_); first | refine WL.yld rfl (Yld.pure rfl nrmQ) ?_)
    | ((with_reducible refine WL.isN_load ?_); first | refine WL.yld rfl (Yld.load rfl rfl rfl rfl (CellAt.vwP 14 rfl (by omega) hpx rfl)) ?_ | refine WL.yld rfl (Yld.load rfl rfl rfl rfl cellQ) ?_ | refine WL.yld rfl (Yld.loadAgg rfl rfl rfl rfl rfl aggQ) ?_)
    | ((with_reducible refine WL.isN_faddr ?_); first | refine WL.yld rfl (Yld.fieldAddr rfl rfl rfl rfl rfl rfl rfl) ?_)
    | ((with_reducible refine WL.isN_iaddr ?_); first | refine WL.yld rfl (Yld.indexS 0 rfl rfl rfl rfl rfl rfl (by omega)) ?_ | refine WL.yld rfl (Yld.indexS 1 rfl rfl rfl rfl rfl rfl (by omega)) ?_ | refine WL.yld rfl (Yld.indexS 2 rfl rfl rfl rfl rfl rfl (by omega)) ?_ | refine WL.yld rfl (Yld.indexS _ rfl rfl rfl rfl rfl rfl (by omega)) ?_ | refine WL.yld rfl (Yld.indexA 0 rfl rfl rfl rfl rfl rfl (by omega)) ?_ | refine WL.yld rfl (Yld.indexA 1 rfl rfl rfl rfl rfl rfl (by omega)) ?_ | refine WL.yld rfl (Yld.indexA _ rfl rfl rfl rfl rfl rfl (by omega)) ?_)
    | ((with_reducible refine WL.isN_pick ?_); first | refine WL.yld rfl (Yld.pickT rfl rfl rfl) ?_ | refine WL.yld rfl (Yld.pickF rfl rfl rfl) ?_ | refine WL.yld rfl (Yld.pickTh rfl rfl gdQ rfl) ?_ | refine WL.yld rfl (Yld.pickFh rfl rfl gdQ rfl) ?_ | refine WL.yld rfl (Yld.pickB rfl rfl rfl rfl) ?_)
    | ((with_reducible refine WL.isN_call ?_); first | refine WL.step rfl (StepTo.callV (us := [.int .i64 x.op, .int .i64 4]) rfl rfl rfl rfl rfl (by kernel_rfl) (fun w _ => hpick w) ?_) | refine WL.yld rfl (Yld.lenSlice rfl rfl rfl) ?_ | refine WL.yld rfl (Yld.lenStr rfl rfl rfl) ?_)
    | ((with_reducible refine WL.isT ?_); first | refine WL.skipT rfl rfl rfl rfl gdQ ?_ | refine WL.skipU rfl rfl rfl rfl ?_ | refine WL.runT rfl rfl rfl gdQ ?_)
    | ((with_reducible refine WL.isF ?_); first | refine WL.skipF rfl rfl rfl rfl gdQ ?_ | refine WL.skipU rfl rfl rfl rfl ?_ | refine WL.runF rfl rfl rfl gdQ ?_)
    | ((with_reducible refine WL.isN_alloc ?_); first | refine WL.step rfl (StepTo.allocA rfl rfl rfl rfl (fun _ => ?_)) | refine WL.step rfl (StepTo.alloc1 rfl rfl rfl rfl rfl (fun _ => ?_)))
    | ((with_reducible refine WL.isN_store ?_); first | refine WL.step rfl (StepTo.st1 rfl rfl rfl rfl rfl rfl ?_) | refine WL.step rfl (StepTo.stA rfl rfl rfl rfl rfl rfl rfl ?_) | refine WL.step rfl (StepTo.stR rfl rfl rfl rfl rfl rfl rfl ?_))
    | with_reducible refine WC.block ?_
    | with_reducible refine WC.scope ?_
    | with_reducible refine WC.label ?_
    | with_reducible refine WQ.ngN ?_
    | with_reducible refine WQ.ngR ?_
    | with_reducible refine WQ.ngX ?_
    | with_reducible refine WC.skip ?_
    | with_reducible refine WC.ret ?_
    | with_reducible refine WC.exit ?_
    | with_reducible refine WQ.thenR ?_
    | with_reducible refine WQ.thenX ?_
    | with_reducible refine WQ.blkN ?_
    | with_reducible refine WQ.blkR ?_
    | ((with_reducible refine WQ.blkX ?_ ?_); focus rfl)
    | ((with_reducible refine WQ.blkY ?_ ?_); focus rfl)
    | refine WC.condT rfl ?_
    | refine WC.condF rfl ?_
    | refine WC.condTh rfl gdQ ?_
    | refine WC.condFh rfl gdQ ?_
    | (refine WC.cond rfl (fun hc => ?_) (fun hc => ?_) <;> (try first | (with_reducible replace hc := of_decide_eq_true hc) | (with_reducible replace hc := of_decide_eq_false hc) | (with_reducible replace hc := eqT hc) | (with_reducible replace hc := eqF hc) | (with_reducible replace hc := neT hc) | (with_reducible replace hc := neF hc) | (with_reducible replace hc := noT hc) | (with_reducible replace hc := noF hc)) <;> (try (exfalso; omega))))
        refine WC.cut (fun τ H => ∃ (k1 d1 n1 e1 : Nat) (A1 B1 L : Option Addr) (nl cl : Nat), okA A1 k1 ∧ okA B1 n1 ∧ (actF next wait x true).2.1.length = k1 ∧ (actF next wait x true).2.2.1.length = n1 ∧ (actF next wait x true).2.2.2.length = nl ∧
            τ = [(1, .slice (some ⟨b, off, none⟩) n c), (6, .pointer (some ⟨bq, 0, none⟩)), (8, .pointer (some ⟨br, 0, none⟩)), (10, .int .i64 i), (11, .pointer (some ⟨ba, 0, none⟩)), (12, .slice L nl cl), (13, .int .i64 (actF next wait x true).1), (14, .pointer (some ⟨bb, 0, none⟩))] ∧
            H = [.box bb 50 [.slice A2 k2 d2, .slice B2 n2 e2],
              .box ba 27 [.slice A1 k1 d1, .slice B1 n1 e1], .vw A1 k1 1 (flat u16c (actF next wait x true).2.1), .vw B1 n1 6 (flat Msg.cs (actF next wait x true).2.2.1), .vw L nl 6 (flat Msg.cs (actF next wait x true).2.2.2),
              .box br 50 [.slice BN k dN, .slice BW nW dW], .vw BN k 1 (flat u16c next), .vw BW nW 6 (flat Msg.cs wait), .box bq 27 [.slice AN k cN, .slice AW nW cW], .vw AN k 1 (flat u16c next), .vw AW nW 6 (flat Msg.cs wait), .vw (some ⟨b, off, none⟩) n 8 (flat OAct.cs xs)]) ?_ ?_
        refine WC.anyI [11, 14] (by kernel_rfl) ?_
        refine WA.take (idx := [11, 14]) 0 rfl (by kernel_rfl) (by kernel_rfl) (by kernel_rfl) rfl ⟨by decide, rfl⟩ (by first | exact Yld.load rfl rfl rfl rfl (CellAt.vwPP 1 2 rfl (by omega) hpx rfl) | exact Yld.load rfl rfl rfl rfl cellQ | exact Yld.loadAgg rfl rfl rfl rfl rfl aggQ) ?_
        refine WA.take (idx := [11, 14]) 1 rfl (by kernel_rfl) (by kernel_rfl) (by kernel_rfl) rfl ⟨by decide, rfl⟩ (Yld.pure rfl nrmQ) ?_
        refine WA.take (idx := [11, 14]) 2 rfl (by kernel_rfl) (by kernel_rfl) (by kernel_rfl) rfl ⟨by decide, rfl⟩ (Yld.pure rfl nrmQ) ?_
        refine WA.take (idx := [11, 14]) 3 rfl (by kernel_rfl) (by kernel_rfl) (by kernel_rfl) rfl ⟨by decide, rfl⟩ (by first | exact Yld.indexS 0 rfl rfl rfl rfl rfl rfl (by omega) | exact Yld.indexS 1 rfl rfl rfl rfl rfl rfl (by omega) | exact Yld.indexS 2 rfl rfl rfl rfl rfl rfl (by omega) | exact Yld.indexS _ rfl rfl rfl rfl rfl rfl (by omega) | exact Yld.indexA 0 rfl rfl rfl rfl rfl rfl (by omega) | exact Yld.indexA 1 rfl rfl rfl rfl rfl rfl (by omega) | exact Yld.indexA _ rfl rfl rfl rfl rfl rfl (by omega)) ?_
        refine WA.take (idx := [11, 14]) 4 rfl (by kernel_rfl) (by kernel_rfl) (by kernel_rfl) rfl ⟨by decide, rfl⟩ (Yld.fieldAddr rfl rfl rfl rfl rfl rfl rfl) ?_
        refine WA.take (idx := [11, 14]) 5 rfl (by kernel_rfl) (by kernel_rfl) (by kernel_rfl) rfl ⟨by decide, rfl⟩ (by first | exact Yld.load rfl rfl rfl rfl (CellAt.vwPP 1 2 rfl (by omega) hpx rfl) | exact Yld.load rfl rfl rfl rfl cellQ | exact Yld.loadAgg rfl rfl rfl rfl rfl aggQ) ?_
        refine WA.take (idx := [11, 14]) 6 rfl (by kernel_rfl) (by kernel_rfl) (by kernel_rfl) rfl ⟨by decide, rfl⟩ (Yld.pure rfl nrmQ) ?_
        refine WA.take (idx := [11, 14]) 7 rfl (by kernel_rfl) (by kernel_rfl) (by kernel_rfl) rfl ⟨by decide, rfl⟩ (Yld.pure rfl nrmQ) ?_
        refine WA.take (idx := [11, 14]) 8 rfl (by kernel_rfl) (by kernel_rfl) (by kernel_rfl) rfl ⟨by decide, rfl⟩ (by first | exact Yld.indexS 0 rfl rfl rfl rfl rfl rfl (by omega) | exact Yld.indexS 1 rfl rfl rfl rfl rfl rfl (by omega) | exact Yld.indexS 2 rfl rfl rfl rfl rfl rfl (by omega) | exact Yld.indexS _ rfl rfl rfl rfl rfl rfl (by omega) | exact Yld.indexA 0 rfl rfl rfl rfl rfl rfl (by omega) | exact Yld.indexA 1 rfl rfl rfl rfl rfl rfl (by omega) | exact Yld.indexA _ rfl rfl rfl rfl rfl rfl (by omega)) ?_
        refine WA.take (idx := [11, 14]) 9 rfl (by kernel_rfl) (by kernel_rfl) (by kernel_rfl) rfl ⟨by decide, rfl⟩ (Yld.fieldAddr rfl rfl rfl rfl rfl rfl rfl) ?_
        refine WA.take (idx := [11, 14]) 10 rfl (by kernel_rfl) (by kernel_rfl) (by kernel_rfl) rfl ⟨by decide, rfl⟩ (Yld.fieldAddr rfl rfl rfl rfl rfl rfl rfl) ?_
        refine WA.take (idx := [11, 14]) 11 rfl (by kernel_rfl) (by kernel_rfl) (by kernel_rfl) rfl ⟨by decide, rfl⟩ (by first | exact Yld.load rfl rfl rfl rfl (CellAt.vwPP 1 2 rfl (by omega) hpx rfl) | exact Yld.load rfl rfl rfl rfl cellQ | exact Yld.loadAgg rfl rfl rfl rfl rfl aggQ) ?_
        refine WA.one 12 (by kernel_rfl) rfl rfl ?_
        refine StepTo.callN [] (us := [.agg #[.slice AN k cN, .slice AW nW cW], .int .i64 x.to_, .int .u16 x.m.ssn]) rfl rfl rfl rfl rfl (by kernel_rfl) (fun w hw => skip_w AN AW k cN nW cW x.to_ x.m.ssn next wait w (by omega) (by omega) (hw.lst 12 u16c_len (by omega) rfl) (hw.lst 13 Msg.cs_len (by omega) rfl) okN okW hq.nums (fun m hm => (hq.all m hm).1) hV.1 hV.2) ?_
        rintro v N ⟨A3, k3, d3, B3, n3, e3, L3, nl3, cl3, rfl, rfl, q5, q6, l7, l8, l9⟩
        refine ⟨⟨[14, 17], by decide, rfl⟩, ?_⟩
        refine WA.take (idx := [14, 17]) 13 rfl (by kernel_rfl) (by kernel_rfl) (by kernel_rfl) rfl ⟨by decide, rfl⟩ (Yld.pure rfl nrmQ) ?_
        refine WA.take (idx := [14, 17]) 14 rfl (by kernel_rfl) (by kernel_rfl) (by kernel_rfl) rfl ⟨by decide, rfl⟩ (Yld.pure rfl nrmQ) ?_
        refine WA.take (idx := [14, 17]) 15 rfl (by kernel_rfl) (by kernel_rfl) (by kernel_rfl) rfl ⟨by decide, rfl⟩ (Yld.pure rfl nrmQ) ?_
        refine WA.take (idx := [14, 17]) 16 rfl (by kernel_rfl) (by kernel_rfl) (by kernel_rfl) rfl ⟨by decide, rfl⟩ (Yld.pure rfl nrmQ) ?_
        refine WA.one 17 (by kernel_rfl) rfl rfl ?_
        first | refine StepTo.store1 0 rfl rfl rfl rfl rfl rfl rfl overQ setQ ⟨⟨[14, 17], by decide, rfl⟩, ?_⟩ | refine StepTo.storeA 0 rfl rfl rfl rfl rfl rfl rfl rfl overQ setQ ⟨⟨[14, 17], by decide, rfl⟩, ?_⟩ | refine StepTo.storeRow 0 rfl rfl rfl rfl rfl rfl rfl rfl (by omega) setQ ⟨⟨[14, 17], by decide, rfl⟩, ?_⟩ | refine StepTo.store1 1 rfl rfl rfl rfl rfl rfl rfl overQ setQ ⟨⟨[14, 17], by decide, rfl⟩, ?_⟩ | refine StepTo.storeA 1 rfl rfl rfl rfl rfl rfl rfl rfl overQ setQ ⟨⟨[14, 17], by decide, rfl⟩, ?_⟩ | refine StepTo.storeRow 1 rfl rfl rfl rfl rfl rfl rfl rfl (by omega) setQ ⟨⟨[14, 17], by decide, rfl⟩, ?_⟩ | refine StepTo.store1 2 rfl rfl rfl rfl rfl rfl rfl overQ setQ ⟨⟨[14, 17], by decide, rfl⟩, ?_⟩ | refine StepTo.storeA 2 rfl rfl rfl rfl rfl rfl rfl rfl overQ setQ ⟨⟨[14, 17], by decide, rfl⟩, ?_⟩ | refine StepTo.storeRow 2 rfl rfl rfl rfl rfl rfl rfl rfl (by omega) setQ ⟨⟨[14, 17], by decide, rfl⟩, ?_⟩ | refine StepTo.store1 3 rfl rfl rfl rfl rfl rfl rfl overQ setQ ⟨⟨[14, 17], by decide, rfl⟩, ?_⟩ | refine StepTo.storeA 3 rfl rfl rfl rfl rfl rfl rfl rfl overQ setQ ⟨⟨[14, 17], by decide, rfl⟩, ?_⟩ | refine StepTo.storeRow 3 rfl rfl rfl rfl rfl rfl rfl rfl (by omega) setQ ⟨⟨[14, 17], by decide, rfl⟩, ?_⟩ | refine StepTo.store1 4 rfl rfl rfl rfl rfl rfl rfl overQ setQ ⟨⟨[14, 17], by decide, rfl⟩, ?_⟩ | refine StepTo.storeA 4 rfl rfl rfl rfl rfl rfl rfl rfl overQ setQ ⟨⟨[14, 17], by decide, rfl⟩, ?_⟩ | refine StepTo.storeRow 4 rfl rfl rfl rfl rfl rfl rfl rfl (by omega) setQ ⟨⟨[14, 17], by decide, rfl⟩, ?_⟩ | refine StepTo.store1 5 rfl rfl rfl rfl rfl rfl rfl overQ setQ ⟨⟨[14, 17], by decide, rfl⟩, ?_⟩ | refine StepTo.storeA 5 rfl rfl rfl rfl rfl rfl rfl rfl overQ setQ ⟨⟨[14, 17], by decide, rfl⟩, ?_⟩ | refine StepTo.storeRow 5 rfl rfl rfl rfl rfl rfl rfl rfl (by omega) setQ ⟨⟨[14, 17], by decide, rfl⟩, ?_⟩ | refine StepTo.store1 6 rfl rfl rfl rfl rfl rfl rfl overQ setQ ⟨⟨[14, 17], by decide, rfl⟩, ?_⟩ | refine StepTo.storeA 6 rfl rfl rfl rfl rfl rfl rfl rfl overQ setQ ⟨⟨[14, 17], by decide, rfl⟩, ?_⟩ | refine StepTo.storeRow 6 rfl rfl rfl rfl rfl rfl rfl rfl (by omega) setQ ⟨⟨[14, 17], by decide, rfl⟩, ?_⟩ | refine StepTo.store1 7 rfl rfl rfl rfl rfl rfl rfl overQ setQ ⟨⟨[14, 17], by decide, rfl⟩, ?_⟩ | refine StepTo.storeA 7 rfl rfl rfl rfl rfl rfl rfl rfl overQ setQ ⟨⟨[14, 17], by decide, rfl⟩, ?_⟩ | refine StepTo.storeRow 7 rfl rfl rfl rfl rfl rfl rfl rfl (by omega) setQ ⟨⟨[14, 17], by decide, rfl⟩, ?_⟩ | refine StepTo.store1 8 rfl rfl rfl rfl rfl rfl rfl overQ setQ ⟨⟨[14, 17], by decide, rfl⟩, ?_⟩ | refine StepTo.storeA 8 rfl rfl rfl rfl rfl rfl rfl rfl overQ setQ ⟨⟨[14, 17], by decide, rfl⟩, ?_⟩ | refine StepTo.storeRow 8 rfl rfl rfl rfl rfl rfl rfl rfl (by omega) setQ ⟨⟨[14, 17], by decide, rfl⟩, ?_⟩ | refine StepTo.store1 9 rfl rfl rfl rfl rfl rfl rfl overQ setQ ⟨⟨[14, 17], by decide, rfl⟩, ?_⟩ | refine StepTo.storeA 9 rfl rfl rfl rfl rfl rfl rfl rfl overQ setQ ⟨⟨[14, 17], by decide, rfl⟩, ?_⟩ | refine StepTo.storeRow 9 rfl rfl rfl rfl rfl rfl rfl rfl (by omega) setQ ⟨⟨[14, 17], by decide, rfl⟩, ?_⟩ | refine StepTo.store1 10 rfl rfl rfl rfl rfl rfl rfl overQ setQ ⟨⟨[14, 17], by decide, rfl⟩, ?_⟩ | refine StepTo.storeA 10 rfl rfl rfl rfl rfl rfl rfl rfl overQ setQ ⟨⟨[14, 17], by decide, rfl⟩, ?_⟩ | refine StepTo.storeRow 10 rfl rfl rfl rfl rfl rfl rfl rfl (by omega) setQ ⟨⟨[14, 17], by decide, rfl⟩, ?_⟩ | refine StepTo.store1 11 rfl rfl rfl rfl rfl rfl rfl overQ setQ ⟨⟨[14, 17], by decide, rfl⟩, ?_⟩ | refine StepTo.storeA 11 rfl rfl rfl rfl rfl rfl rfl rfl overQ setQ ⟨⟨[14, 17], by decide, rfl⟩, ?_⟩ | refine StepTo.storeRow 11 rfl rfl rfl rfl rfl rfl rfl rfl (by omega) setQ ⟨⟨[14, 17], by decide, rfl⟩, ?_⟩ | refine StepTo.store1 12 rfl rfl rfl rfl rfl rfl rfl overQ setQ ⟨⟨[14, 17], by decide, rfl⟩, ?_⟩ | refine StepTo.storeA 12 rfl rfl rfl rfl rfl rfl rfl rfl overQ setQ ⟨⟨[14, 17], by decide, rfl⟩, ?_⟩ | refine StepTo.storeRow 12 rfl rfl rfl rfl rfl rfl rfl rfl (by omega) setQ ⟨⟨[14, 17], by decide, rfl⟩, ?_⟩ | refine StepTo.store1 13 rfl rfl rfl rfl rfl rfl rfl overQ setQ ⟨⟨[14, 17], by decide, rfl⟩, ?_⟩ | refine StepTo.storeA 13 rfl rfl rfl rfl rfl rfl rfl rfl overQ setQ ⟨⟨[14, 17], by decide, rfl⟩, ?_⟩ | refine StepTo.storeRow 13 rfl rfl rfl rfl rfl rfl rfl rfl (by omega) setQ ⟨⟨[14, 17], by decide, rfl⟩, ?_⟩ | refine StepTo.store1 14 rfl rfl rfl rfl rfl rfl rfl overQ setQ ⟨⟨[14, 17], by decide, rfl⟩, ?_⟩ | refine StepTo.storeA 14 rfl rfl rfl rfl rfl rfl rfl rfl overQ setQ ⟨⟨[14, 17], by decide, rfl⟩, ?_⟩ | refine StepTo.storeRow 14 rfl rfl rfl rfl rfl rfl rfl rfl (by omega) setQ ⟨⟨[14, 17], by decide, rfl⟩, ?_⟩ | refine StepTo.store1 15 rfl rfl rfl rfl rfl rfl rfl overQ setQ ⟨⟨[14, 17], by decide, rfl⟩, ?_⟩ | refine StepTo.storeA 15 rfl rfl rfl rfl rfl rfl rfl rfl overQ setQ ⟨⟨[14, 17], by decide, rfl⟩, ?_⟩ | refine StepTo.storeRow 15 rfl rfl rfl rfl rfl rfl rfl rfl (by omega) setQ ⟨⟨[14, 17], by decide, rfl⟩, ?_⟩ | refine StepTo.store1 16 rfl rfl rfl rfl rfl rfl rfl overQ setQ ⟨⟨[14, 17], by decide, rfl⟩, ?_⟩ | refine StepTo.storeA 16 rfl rfl rfl rfl rfl rfl rfl rfl overQ setQ ⟨⟨[14, 17], by decide, rfl⟩, ?_⟩ | refine StepTo.storeRow 16 rfl rfl rfl rfl rfl rfl rfl rfl (by omega) setQ ⟨⟨[14, 17], by decide, rfl⟩, ?_⟩ | refine StepTo.store1 17 rfl rfl rfl rfl rfl rfl rfl overQ setQ ⟨⟨[14, 17], by decide, rfl⟩, ?_⟩ | refine StepTo.storeA 17 rfl rfl rfl rfl rfl rfl rfl rfl overQ setQ ⟨⟨[14, 17], by decide, rfl⟩, ?_⟩ | refine StepTo.storeRow 17 rfl rfl rfl rfl rfl rfl rfl rfl (by omega) setQ ⟨⟨[14, 17], by decide, rfl⟩, ?_⟩
        refine WA.take (idx := [14, 17]) 18 rfl (by kernel_rfl) (by kernel_rfl) (by kernel_rfl) rfl ⟨by decide, rfl⟩ (Yld.pure rfl nrmQ) ?_
        refine WA.take (idx := [14, 17]) 19 rfl (by kernel_rfl) (by kernel_rfl) (by kernel_rfl) rfl ⟨by decide, rfl⟩ (Yld.pure rfl nrmQ) ?_
        refine WA.done (by kernel_rfl) ?_
        exact WQ.thenN (WQ.met _ _ [3, 7, 0, 1, 2, 11, 12, 13, 14, 15, 16, 17] (by repeat (first | exact Sub.nil | refine Sub.cons rfl ?_ | refine Sub.consE rfl (int_eq (by omega)) ?_)) ⟨by decide, rfl⟩ ⟨k3, d3, n3, e3, A3, B3, L3, nl3, cl3, q5, q6, l7, l8, l9, rfl, rfl⟩)
        rintro τ H ⟨k3, d3, n3, e3, A3, B3, L3, nl3, cl3, q5, q6, l7, l8, l9, rfl, rfl⟩
        refine WC.anyI [5, 11] (by kernel_rfl) ?_
        refine WA.take (idx := [5, 11]) 0 rfl (by kernel_rfl) (by kernel_rfl) (by kernel_rfl) rfl ⟨by decide, rfl⟩ (by first | exact Yld.load rfl rfl rfl rfl (CellAt.vwPP 1 2 rfl (by omega) hpx rfl) | exact Yld.load rfl rfl rfl rfl cellQ | exact Yld.loadAgg rfl rfl rfl rfl rfl aggQ) ?_
        refine WA.take (idx := [5, 11]) 1 rfl (by kernel_rfl) (by kernel_rfl) (by kernel_rfl) rfl ⟨by decide, rfl⟩ (Yld.pure rfl nrmQ) ?_
        refine WA.take (idx := [5, 11]) 2 rfl (by kernel_rfl) (by kernel_rfl) (by kernel_rfl) rfl ⟨by decide, rfl⟩ (Yld.pure rfl nrmQ) ?_
        refine WA.take (idx := [5, 11]) 3 rfl (by kernel_rfl) (by kernel_rfl) (by kernel_rfl) rfl ⟨by decide, rfl⟩ (by first | exact Yld.indexS 0 rfl rfl rfl rfl rfl rfl (by omega) | exact Yld.indexS 1 rfl rfl rfl rfl rfl rfl (by omega) | exact Yld.indexS 2 rfl rfl rfl rfl rfl rfl (by omega) | exact Yld.indexS _ rfl rfl rfl rfl rfl rfl (by omega) | exact Yld.indexA 0 rfl rfl rfl rfl rfl rfl (by omega) | exact Yld.indexA 1 rfl rfl rfl rfl rfl rfl (by omega) | exact Yld.indexA _ rfl rfl rfl rfl rfl rfl (by omega)) ?_
        refine WA.take (idx := [5, 11]) 4 rfl (by kernel_rfl) (by kernel_rfl) (by kernel_rfl) rfl ⟨by decide, rfl⟩ (Yld.fieldAddr rfl rfl rfl rfl rfl rfl rfl) ?_
        refine WA.take (idx := [5, 11]) 5 rfl (by kernel_rfl) (by kernel_rfl) (by kernel_rfl) rfl ⟨by decide, rfl⟩ (by first | exact Yld.load rfl rfl rfl rfl (CellAt.vwPP 1 2 rfl (by omega) hpx rfl) | exact Yld.load rfl rfl rfl rfl cellQ | exact Yld.loadAgg rfl rfl rfl rfl rfl aggQ) ?_
        refine WA.take (idx := [5, 11]) 6 rfl (by kernel_rfl) (by kernel_rfl) (by kernel_rfl) rfl ⟨by decide, rfl⟩ (Yld.pure rfl nrmQ) ?_
        refine WA.take (idx := [5, 11]) 7 rfl (by kernel_rfl) (by kernel_rfl) (by kernel_rfl) rfl ⟨by decide, rfl⟩ (Yld.pure rfl nrmQ) ?_
        refine WA.take (idx := [5, 11]) 8 rfl (by kernel_rfl) (by kernel_rfl) (by kernel_rfl) rfl ⟨by decide, rfl⟩ (by first | exact Yld.indexS 0 rfl rfl rfl rfl rfl rfl (by omega) | exact Yld.indexS 1 rfl rfl rfl rfl rfl rfl (by omega) | exact Yld.indexS 2 rfl rfl rfl rfl rfl rfl (by omega) | exact Yld.indexS _ rfl rfl rfl rfl rfl rfl (by omega) | exact Yld.indexA 0 rfl rfl rfl rfl rfl rfl (by omega) | exact Yld.indexA 1 rfl rfl rfl rfl rfl rfl (by omega) | exact Yld.indexA _ rfl rfl rfl rfl rfl rfl (by omega)) ?_
        refine WA.take (idx := [5, 11]) 9 rfl (by kernel_rfl) (by kernel_rfl) (by kernel_rfl) rfl ⟨by decide, rfl⟩ (Yld.fieldAddr rfl rfl rfl rfl rfl rfl rfl) ?_
        refine WA.take (idx := [5, 11]) 10 rfl (by kernel_rfl) (by kernel_rfl) (by kernel_rfl) rfl ⟨by decide, rfl⟩ (Yld.fieldAddr rfl rfl rfl rfl rfl rfl rfl) ?_
        refine WA.take (idx := [5, 11]) 11 rfl (by kernel_rfl) (by kernel_rfl) (by kernel_rfl) rfl ⟨by decide, rfl⟩ (by first | exact Yld.load rfl rfl rfl rfl (CellAt.vwPP 1 2 rfl (by omega) hpx rfl) | exact Yld.load rfl rfl rfl rfl cellQ | exact Yld.loadAgg rfl rfl rfl rfl rfl aggQ) ?_
        refine WA.one 12 (by kernel_rfl) rfl rfl ?_
        refine StepTo.callN [6, 7] (us := [.agg #[.slice BN k dN, .slice BW nW dW], .int .i64 x.to_, .int .u16 x.m.ssn]) rfl rfl rfl rfl rfl (by kernel_rfl) (fun w hw => rskip_s hw 6 7 rfl rfl okB okC (by omega) (by omega) hq.nums (fun m hm => (hq.all m hm).1) (fun m hm => (hq.all m hm).2.1) hV.1 hV.2) ?_
        rintro v N ⟨A4, k4, d4, B4, n4, e4, M4, ml4, cm4, rfl, rfl, q7, q8, m1, m2, m3⟩
        refine ⟨⟨[8, 14], by decide, rfl⟩, ?_⟩
        refine WA.take (idx := [8, 14]) 13 rfl (by kernel_rfl) (by kernel_rfl) (by kernel_rfl) rfl ⟨by decide, rfl⟩ (Yld.pure rfl nrmQ) ?_
        refine WA.take (idx := [8, 14]) 14 rfl (by kernel_rfl) (by kernel_rfl) (by kernel_rfl) rfl ⟨by decide, rfl⟩ (Yld.pure rfl nrmQ) ?_
        refine WA.take (idx := [8, 14]) 15 rfl (by kernel_rfl) (by kernel_rfl) (by kernel_rfl) rfl ⟨by decide, rfl⟩ (Yld.pure rfl nrmQ) ?_
        refine WA.take (idx := [8, 14]) 16 rfl (by kernel_rfl) (by kernel_rfl) (by kernel_rfl) rfl ⟨by decide, rfl⟩ (Yld.pure rfl nrmQ) ?_
        refine WA.one 17 (by kernel_rfl) rfl rfl ?_
        first | refine StepTo.store1 0 rfl rfl rfl rfl rfl rfl rfl overQ setQ ⟨⟨[8, 14], by decide, rfl⟩, ?_⟩ | refine StepTo.storeA 0 rfl rfl rfl rfl rfl rfl rfl rfl overQ setQ ⟨⟨[8, 14], by decide, rfl⟩, ?_⟩ | refine StepTo.storeRow 0 rfl rfl rfl rfl rfl rfl rfl rfl (by omega) setQ ⟨⟨[8, 14], by decide, rfl⟩, ?_⟩ | refine StepTo.store1 1 rfl rfl rfl rfl rfl rfl rfl overQ setQ ⟨⟨[8, 14], by decide, rfl⟩, ?_⟩ | refine StepTo.storeA 1 rfl rfl rfl rfl rfl rfl rfl rfl overQ setQ ⟨⟨[8, 14], by decide, rfl⟩, ?_⟩ | refine StepTo.storeRow 1 rfl rfl rfl rfl rfl rfl rfl rfl (by omega) setQ ⟨⟨[8, 14], by decide, rfl⟩, ?_⟩ | refine StepTo.store1 2 rfl rfl rfl rfl rfl rfl rfl overQ setQ ⟨⟨[8, 14], by decide, rfl⟩, ?_⟩ | refine StepTo.storeA 2 rfl rfl rfl rfl rfl rfl rfl rfl overQ setQ ⟨⟨[8, 14], by decide, rfl⟩, ?_⟩ | refine StepTo.storeRow 2 rfl rfl rfl rfl rfl rfl rfl rfl (by omega) setQ ⟨⟨[8, 14], by decide, rfl⟩, ?_⟩ | refine StepTo.store1 3 rfl rfl rfl rfl rfl rfl rfl overQ setQ ⟨⟨[8, 14], by decide, rfl⟩, ?_⟩ | refine StepTo.storeA 3 rfl rfl rfl rfl rfl rfl rfl rfl overQ setQ ⟨⟨[8, 14], by decide, rfl⟩, ?_⟩ | refine StepTo.storeRow 3 rfl rfl rfl rfl rfl rfl rfl rfl (by omega) setQ ⟨⟨[8, 14], by decide, rfl⟩, ?_⟩ | refine StepTo.store1 4 rfl rfl rfl rfl rfl rfl rfl overQ setQ ⟨⟨[8, 14], by decide, rfl⟩, ?_⟩ | refine StepTo.storeA 4 rfl rfl rfl rfl rfl rfl rfl rfl overQ setQ ⟨⟨[8, 14], by decide, rfl⟩, ?_⟩ | refine StepTo.storeRow 4 rfl rfl rfl rfl rfl rfl rfl rfl (by omega) setQ ⟨⟨[8, 14], by decide, rfl⟩, ?_⟩ | refine StepTo.store1 5 rfl rfl rfl rfl rfl rfl rfl overQ setQ ⟨⟨[8, 14], by decide, rfl⟩, ?_⟩ | refine StepTo.storeA 5 rfl rfl rfl rfl rfl rfl rfl rfl overQ setQ ⟨⟨[8, 14], by decide, rfl⟩, ?_⟩ | refine StepTo.storeRow 5 rfl rfl rfl rfl rfl rfl rfl rfl (by omega) setQ ⟨⟨[8, 14], by decide, rfl⟩, ?_⟩ | refine StepTo.store1 6 rfl rfl rfl rfl rfl rfl rfl overQ setQ ⟨⟨[8, 14], by decide, rfl⟩, ?_⟩ | refine StepTo.storeA 6 rfl rfl rfl rfl rfl rfl rfl rfl overQ setQ ⟨⟨[8, 14], by decide, rfl⟩, ?_⟩ | refine StepTo.storeRow 6 rfl rfl rfl rfl rfl rfl rfl rfl (by omega) setQ ⟨⟨[8, 14], by decide, rfl⟩, ?_⟩ | refine StepTo.store1 7 rfl rfl rfl rfl rfl rfl rfl overQ setQ ⟨⟨[8, 14], by decide, rfl⟩, ?_⟩ | refine StepTo.storeA 7 rfl rfl rfl rfl rfl rfl rfl rfl overQ setQ ⟨⟨[8, 14], by decide, rfl⟩, ?_⟩ | refine StepTo.storeRow 7 rfl rfl rfl rfl rfl rfl rfl rfl (by omega) setQ ⟨⟨[8, 14], by decide, rfl⟩, ?_⟩ | refine StepTo.store1 8 rfl rfl rfl rfl rfl rfl rfl overQ setQ ⟨⟨[8, 14], by decide, rfl⟩, ?_⟩ | refine StepTo.storeA 8 rfl rfl rfl rfl rfl rfl rfl rfl overQ setQ ⟨⟨[8, 14], by decide, rfl⟩, ?_⟩ | refine StepTo.storeRow 8 rfl rfl rfl rfl rfl rfl rfl rfl (by omega) setQ ⟨⟨[8, 14], by decide, rfl⟩, ?_⟩ | refine StepTo.store1 9 rfl rfl rfl rfl rfl rfl rfl overQ setQ ⟨⟨[8, 14], by decide, rfl⟩, ?_⟩ | refine StepTo.storeA 9 rfl rfl rfl rfl rfl rfl rfl rfl overQ setQ ⟨⟨[8, 14], by decide, rfl⟩, ?_⟩ | refine StepTo.storeRow 9 rfl rfl rfl rfl rfl rfl rfl rfl (by omega) setQ ⟨⟨[8, 14], by decide, rfl⟩, ?_⟩ | refine StepTo.store1 10 rfl rfl rfl rfl rfl rfl rfl overQ setQ ⟨⟨[8, 14], by decide, rfl⟩, ?_⟩ | refine StepTo.storeA 10 rfl rfl rfl rfl rfl rfl rfl rfl overQ setQ ⟨⟨[8, 14], by decide, rfl⟩, ?_⟩ | refine StepTo.storeRow 10 rfl rfl rfl rfl rfl rfl rfl rfl (by omega) setQ ⟨⟨[8, 14], by decide, rfl⟩, ?_⟩ | refine StepTo.store1 11 rfl rfl rfl rfl rfl rfl rfl overQ setQ ⟨⟨[8, 14], by decide, rfl⟩, ?_⟩ | refine StepTo.storeA 11 rfl rfl rfl rfl rfl rfl rfl rfl overQ setQ ⟨⟨[8, 14], by decide, rfl⟩, ?_⟩ | refine StepTo.storeRow 11 rfl rfl rfl rfl rfl rfl rfl rfl (by omega) setQ ⟨⟨[8, 14], by decide, rfl⟩, ?_⟩ | refine StepTo.store1 12 rfl rfl rfl rfl rfl rfl rfl overQ setQ ⟨⟨[8, 14], by decide, rfl⟩, ?_⟩ | refine StepTo.storeA 12 rfl rfl rfl rfl rfl rfl rfl rfl overQ setQ ⟨⟨[8, 14], by decide, rfl⟩, ?_⟩ | refine StepTo.storeRow 12 rfl rfl rfl rfl rfl rfl rfl rfl (by omega) setQ ⟨⟨[8, 14], by decide, rfl⟩, ?_⟩ | refine StepTo.store1 13 rfl rfl rfl rfl rfl rfl rfl overQ setQ ⟨⟨[8, 14], by decide, rfl⟩, ?_⟩ | refine StepTo.storeA 13 rfl rfl rfl rfl rfl rfl rfl rfl overQ setQ ⟨⟨[8, 14], by decide, rfl⟩, ?_⟩ | refine StepTo.storeRow 13 rfl rfl rfl rfl rfl rfl rfl rfl (by omega) setQ ⟨⟨[8, 14], by decide, rfl⟩, ?_⟩ | refine StepTo.store1 14 rfl rfl rfl rfl rfl rfl rfl overQ setQ ⟨⟨[8, 14], by decide, rfl⟩, ?_⟩ | refine StepTo.storeA 14 rfl rfl rfl rfl rfl rfl rfl rfl overQ setQ ⟨⟨[8, 14], by decide, rfl⟩, ?_⟩ | refine StepTo.storeRow 14 rfl rfl rfl rfl rfl rfl rfl rfl (by omega) setQ ⟨⟨[8, 14], by decide, rfl⟩, ?_⟩
        refine WA.take (idx := [8, 14]) 18 rfl (by kernel_rfl) (by kernel_rfl) (by kernel_rfl) rfl ⟨by decide, rfl⟩ (Yld.pure rfl nrmQ) ?_
        refine WA.take (idx := [8, 14]) 19 rfl (by kernel_rfl) (by kernel_rfl) (by kernel_rfl) rfl ⟨by decide, rfl⟩ (Yld.pure rfl nrmQ) ?_
        refine WA.done (by kernel_rfl) ?_
        exact WQ.thenN (WQ.met _ _ [3, 0, 1, 2, 4, 5, 6, 7, 8, 9, 10, 11, 12, 13, 14] (by repeat (first | exact Sub.nil | refine Sub.cons rfl ?_ | refine Sub.consE rfl (int_eq (by omega)) ?_)) ⟨by decide, rfl⟩ ⟨true, k3, d3, n3, e3, A3, B3, L3, nl3, cl3, k4, d4, n4, e4, A4, B4, M4, ml4, cm4, q5, q6, l7, l8, l9, q7, q8, m1, m2, m3, rfl, rfl⟩)
      · repeat' (first
    | with_reducible refine WL.nil ?_
    | with_reducible refine WQ.thenN ?_
    | with_reducible refine WQ.code ?_
    | with_reducible refine WC.seq ?_
    | with_reducible refine WC.region ?_
    | ((with_reducible refine WL.isN_move ?_); first | refine WL.yld rfl (Yld.pure rfl nrmQ) ?_)
    | ((with_reducible refine WL.isN_assign ?_); first | refine WL.yld rfl (Yld.pure rfl nrmQ) ?_)
    | ((with_reducible refine WL.isN_bin ?_); first | refine WL.yld rfl (Yld.pure rfl nrmQ) ?_ | refine WL.yld rfl (Yld.rem rfl rfl rfl rfl (by omega) (by omega)) ?_ | refine WL.yld rfl (Yld.quo rfl rfl rfl rfl (by omega) (by omega) nrmQ) ?_ | refine WL.yld rfl (Yld.eqlB rfl rfl rfl rfl) ?_ | refine WL.yld rfl (Yld.neqB rfl rfl rfl rfl) ?_ | refine WL.yld rfl (Yld.eqlA 4 rfl rfl rfl (by kernel_rfl) (by kernel_rfl) rfl rfl) ?_ | refine WL.yld rfl (Yld.neqA 4 rfl rfl rfl (by kernel_rfl) (by kernel_rfl) rfl rfl) ?_ | refine WL.yld rfl (Yld.quoT rfl rfl rfl rfl (by omega) nrmQ) ?_)
    | ((with_reducible refine WL.isN_un ?_); first | refine WL.yld rfl (Yld.pure rfl nrmQ) ?_)
    | ((with_reducible refine WL.isN_extract ?_); first | refine WL.yld rfl (Yld.pure rfl nrmQ) ?_)
    | ((with_reducible refine WL.isN_load ?_); first | refine WL.yld rfl (Yld.load rfl rfl rfl rfl (CellAt.vwP 14 rfl (by omega) hpx rfl)) ?_ | refine WL.yld rfl (Yld.load rfl rfl rfl rfl cellQ) ?_ | refine WL.yld rfl (Yld.loadAgg rfl rfl rfl rfl rfl aggQ) ?_)
    | ((with_reducible refine WL.isN_faddr ?_); first | refine WL.yld rfl (Yld.fieldAddr rfl rfl rfl rfl rfl rfl rfl) ?_)
    | ((with_reducible refine WL.isN_iaddr ?_); first | refine WL.yld rfl (Yld.indexS 0 rfl rfl rfl rfl rfl rfl (by omega)) ?_ | refine WL.yld rfl (Yld.indexS 1 rfl rfl rfl rfl rfl rfl (by omega)) ?_ | refine WL.yld rfl (Yld.indexS 2 rfl rfl rfl rfl rfl rfl (by omega)) ?_ | refine WL.yld rfl (Yld.indexS _ rfl rfl rfl rfl rfl rfl (by omega)) ?_ | refine WL.yld rfl (Yld.indexA 0 rfl rfl rfl rfl rfl rfl (by omega)) ?_ | refine WL.yld rfl (Yld.indexA 1 rfl rfl rfl rfl rfl rfl (by omega)) ?_ | refine WL.yld rfl (Yld.indexA _ rfl rfl rfl rfl rfl rfl (by omega)) ?_)
    | ((with_reducible refine WL.isN_pick ?_); first | refine WL.yld rfl (Yld.pickT rfl rfl rfl) ?_ | refine WL.yld rfl (Yld.pickF rfl rfl rfl) ?_ | refine WL.yld rfl (Yld.pickTh rfl rfl gdQ rfl) ?_ | refine WL.yld rfl (Yld.pickFh rfl rfl gdQ rfl) ?_ | refine WL.yld rfl (Yld.pickB rfl rfl rfl rfl) ?_)
    | ((with_reducible refine WL.isN_call ?_); first | refine WL.step rfl (StepTo.callV (us := [.int .i64 x.op, .int .i64 4]) rfl rfl rfl rfl rfl (by kernel_rfl) (fun w _ => hpick w) ?_) | refine WL.yld rfl (Yld.lenSlice rfl rfl rfl) ?_ | refine WL.yld rfl (Yld.lenStr rfl rfl rfl) ?_)
    | ((with_reducible refine WL.isT ?_); first | refine WL.skipT rfl rfl rfl rfl gdQ ?_ | refine WL.skipU rfl rfl rfl rfl ?_ | refine WL.runT rfl rfl rfl gdQ ?_)
    | ((with_reducible refine WL.isF ?_); first | refine WL.skipF rfl rfl rfl rfl gdQ ?_ | refine WL.skipU rfl rfl rfl rfl ?_ | refine WL.runF rfl rfl rfl gdQ ?_)
    | ((with_reducible refine WL.isN_alloc ?_); first | refine WL.step rfl (StepTo.allocA rfl rfl rfl rfl (fun _ => ?_)) | refine WL.step rfl (StepTo.alloc1 rfl rfl rfl rfl rfl (fun _ => ?_)))
    | ((with_reducible refine WL.isN_store ?_); first | refine WL.step rfl (StepTo.st1 rfl rfl rfl rfl rfl rfl ?_) | refine WL.step rfl (StepTo.stA rfl rfl rfl rfl rfl rfl rfl ?_) | refine WL.step rfl (StepTo.stR rfl rfl rfl rfl rfl rfl rfl ?_))
    | with_reducible refine WC.block ?_
    | with_reducible refine WC.scope ?_
    | with_reducible refine WC.label ?_
    | with_reducible refine WQ.ngN ?_
    | with_reducible refine WQ.ngR ?_
    | with_reducible refine WQ.ngX ?_
    | with_reducible refine WC.skip ?_
    | with_reducible refine WC.ret ?_
    | with_reducible refine WC.exit ?_
    | with_reducible refine WQ.thenR ?_
    | with_reducible refine WQ.thenX ?_
    | with_reducible refine WQ.blkN ?_
    | with_reducible refine WQ.blkR ?_
    | ((with_reducible refine WQ.blkX ?_ ?_); focus rfl)
    | ((with_reducible refine WQ.blkY ?_ ?_); focus rfl)
    | refine WC.condT rfl ?_
    | refine WC.condF rfl ?_
    | refine WC.condTh rfl gdQ ?_
    | refine WC.condFh rfl gdQ ?_
    | (refine WC.cond rfl (fun hc => ?_) (fun hc => ?_) <;> (try first | (with_reducible replace hc := of_decide_eq_true hc) | (with_reducible replace hc := of_decide_eq_false hc) | (with_reducible replace hc := eqT hc) | (with_reducible replace hc := eqF hc) | (with_reducible replace hc := neT hc) | (with_reducible replace hc := neF hc) | (with_reducible replace hc := noT hc) | (with_reducible replace hc := noF hc)) <;> (try (exfalso; omega))))
        exact WQ.met _ _ [0, 1, 2, 3, 4, 5, 6, 7, 8, 9, 10, 11, 12, 13, 14] (by repeat (first | exact Sub.nil | refine Sub.cons rfl ?_ | refine Sub.consE rfl (int_eq (by omega)) ?_)) ⟨by decide, rfl⟩ ⟨false, k1, d1, n1, e1, A1, B1, L, nl, cl, k2, d2, n2, e2, A2, B2, M, ml, cm, q1, q2, l1, l2, l3, q3, q4, l4, l5, l6, rfl, rfl⟩
    clear l1 l2 l3 l4 l5 l6 q1 q2 q3 q4
    rintro τ H ⟨sk, k1, d1, n1, e1, A1, B1, L, nl, cl, k2, d2, n2, e2, A2, B2, M, ml, cm, q1, q2, l1, l2, l3, q3, q4, l4, l5, l6, rfl, rfl⟩
    have hlen := actF_len (sk := sk) hq hP
    have hok := actF_ok (sk := sk) hq hP
    generalize actF next wait x sk = R at *
    obtain ⟨rc, rn, rw_, rl⟩ := R
    simp only at *
    repeat' (first
    | with_reducible refine WL.nil ?_
    | with_reducible refine WQ.thenN ?_
    | with_reducible refine WQ.code ?_
    | with_reducible refine WC.seq ?_
    | with_reducible refine WC.region ?_
    | ((with_reducible refine WL.isN_move ?_); first | refine WL.yld rfl (Yld.pure rfl nrmQ) ?_)
    | ((with_reducible refine WL.isN_assign ?_); first | refine WL.yld rfl (Yld.pure rfl nrmQ) ?_)
    | ((with_reducible refine WL.isN_bin ?_); first | refine WL.yld rfl (Yld.pure rfl nrmQ) ?_ | refine WL.yld rfl (Yld.rem rfl rfl rfl rfl (by omega) (by omega)) ?_ | refine WL.yld rfl (Yld.quo rfl rfl rfl rfl (by omega) (by omega) nrmQ) ?_ | refine WL.yld rfl (Yld.eqlB rfl rfl rfl rfl) ?_ | refine WL.yld rfl (Yld.neqB rfl rfl rfl rfl) ?_ | refine WL.yld rfl (Yld.eqlA 4 rfl rfl rfl (by kernel_rfl) (by kernel_rfl) rfl rfl) ?_ | refine WL.yld rfl (Yld.neqA 4 rfl rfl rfl (by kernel_rfl) (by kernel_rfl) rfl rfl) ?_ | refine WL.yld rfl (Yld.quoT rfl rfl rfl rfl (by omega) nrmQ) ?_)
    | ((with_reducible refine WL.isN_un ?_); first | refine WL.yld rfl (Yld.pure rfl nrmQ) ?_)
    | ((with_reducible refine WL.isN_extract ?_); first | refine WL.yld rfl (Yld.pure rfl nrmQ) ?_)
    | ((with_reducible refine WL.isN_load ?_); first | refine WL.yld rfl (Yld.load rfl rfl rfl rfl cellQ) ?_ | refine WL.yld rfl (Yld.loadAgg rfl rfl rfl rfl rfl aggQ) ?_)
    | ((with_reducible refine WL.isN_faddr ?_); first | refine WL.yld rfl (Yld.fieldAddr rfl rfl rfl rfl rfl rfl rfl) ?_)
    | ((with_reducible refine WL.isN_iaddr ?_); first | refine WL.yld rfl (Yld.indexS 0 rfl rfl rfl rfl rfl rfl (by omega)) ?_ | refine WL.yld rfl (Yld.indexS 1 rfl rfl rfl rfl rfl rfl (by omega)) ?_ | refine WL.yld rfl (Yld.indexS 2 rfl rfl rfl rfl rfl rfl (by omega)) ?_ | refine WL.yld rfl (Yld.indexS _ rfl rfl rfl rfl rfl rfl (by omega)) ?_ | refine WL.yld rfl (Yld.indexA 0 rfl rfl rfl rfl rfl rfl (by omega)) ?_ | refine WL.yld rfl (Yld.indexA 1 rfl rfl rfl rfl rfl rfl (by omega)) ?_ | refine WL.yld rfl (Yld.indexA _ rfl rfl rfl rfl rfl rfl (by omega)) ?_)
    | ((with_reducible refine WL.isN_pick ?_); first | refine WL.yld rfl (Yld.pickT rfl rfl rfl) ?_ | refine WL.yld rfl (Yld.pickF rfl rfl rfl) ?_ | refine WL.yld rfl (Yld.pickTh rfl rfl gdQ rfl) ?_ | refine WL.yld rfl (Yld.pickFh rfl rfl gdQ rfl) ?_ | refine WL.yld rfl (Yld.pickB rfl rfl rfl rfl) ?_)
    | ((with_reducible refine WL.isN_call ?_); first | refine WL.step rfl (StepTo.callV (v := .bool true) (us := [.agg #[.slice A1 k1 d1, .slice B1 n1 e1], .agg #[.slice A2 k2 d2, .slice B2 n2 e2]]) rfl rfl rfl rfl rfl (by kernel_rfl) (fun w hw => same_n A1 k1 d1 B1 n1 e1 A2 k2 d2 B2 n2 e2 rn rw_ w (hw.lst 5 u16c_len (by omega) rfl) (hw.lst 6 Msg.cs_len (by omega) rfl) (hw.lst 1 u16c_len (by omega) rfl) (hw.lst 2 Msg.cs_len (by omega) rfl) (by omega) (by omega)) ?_) | refine WL.runF rfl rfl rfl rfl (WL.step rfl (StepTo.callN [] (us := [.slice L nl cl]) rfl rfl rfl rfl rfl (by kernel_rfl) (fun w hw => all_w L nl cl rl w (hw.lst 7 Msg.cs_len (by omega) rfl) (by omega)) ?_)) | refine WL.step rfl (StepTo.callN [] (us := [.slice L nl cl]) rfl rfl rfl rfl rfl (by kernel_rfl) (fun w hw => all_w L nl cl rl w (hw.lst 7 Msg.cs_len (by omega) rfl) (by omega)) ?_) | refine WL.yld rfl (Yld.lenSlice rfl rfl rfl) ?_ | refine WL.yld rfl (Yld.lenStr rfl rfl rfl) ?_)
    | ((with_reducible refine WL.isT ?_); first | refine WL.skipT rfl rfl rfl rfl gdQ ?_ | refine WL.skipU rfl rfl rfl rfl ?_ | refine WL.runT rfl rfl rfl gdQ ?_)
    | ((with_reducible refine WL.isF ?_); first | refine WL.skipF rfl rfl rfl rfl gdQ ?_ | refine WL.skipU rfl rfl rfl rfl ?_ | refine WL.runF rfl rfl rfl gdQ ?_)
    | ((with_reducible refine WL.isN_alloc ?_); first | refine WL.step rfl (StepTo.allocA rfl rfl rfl rfl (fun _ => ?_)) | refine WL.step rfl (StepTo.alloc1 rfl rfl rfl rfl rfl (fun _ => ?_)))
    | ((with_reducible refine WL.isN_store ?_); first | refine WL.step rfl (StepTo.st1 rfl rfl rfl rfl rfl rfl ?_) | refine WL.step rfl (StepTo.stA rfl rfl rfl rfl rfl rfl rfl ?_) | refine WL.step rfl (StepTo.stR rfl rfl rfl rfl rfl rfl rfl ?_))
    | with_reducible refine WC.block ?_
    | with_reducible refine WC.scope ?_
    | with_reducible refine WC.label ?_
    | with_reducible refine WQ.ngN ?_
    | with_reducible refine WQ.ngR ?_
    | with_reducible refine WQ.ngX ?_
    | with_reducible refine WC.skip ?_
    | with_reducible refine WC.ret ?_
    | with_reducible refine WC.exit ?_
    | with_reducible refine WQ.thenR ?_
    | with_reducible refine WQ.thenX ?_
    | with_reducible refine WQ.blkN ?_
    | with_reducible refine WQ.blkR ?_
    | ((with_reducible refine WQ.blkX ?_ ?_); focus rfl)
    | ((with_reducible refine WQ.blkY ?_ ?_); focus rfl)
    | refine WC.condT rfl ?_
    | refine WC.condF rfl ?_
    | refine WC.condTh rfl gdQ ?_
    | refine WC.condFh rfl gdQ ?_
    | (refine WC.cond rfl (fun hc => ?_) (fun hc => ?_) <;> (try first | (with_reducible replace hc := of_decide_eq_true hc) | (with_reducible replace hc := of_decide_eq_false hc) | (with_reducible replace hc := eqT hc) | (with_reducible replace hc := eqF hc) | (with_reducible replace hc := neT hc) | (with_reducible replace hc := neF hc) | (with_reducible replace hc := noT hc) | (with_reducible replace hc := noF hc)) <;> (try (exfalso; omega))))
    rintro v N ⟨C1, z1, rfl, rfl⟩
    refine WL.rowVw 0 rfl (by omega) ?_
    repeat' (first
    | with_reducible refine WL.nil ?_
    | with_reducible refine WQ.thenN ?_
    | with_reducible refine WQ.code ?_
    | with_reducible refine WC.seq ?_
    | with_reducible refine WC.region ?_
    | ((with_reducible refine WL.isN_move ?_); first | refine WL.yld rfl (Yld.pure rfl nrmQ) ?_)
    | ((with_reducible refine WL.isN_assign ?_); first | refine WL.yld rfl (Yld.pure rfl nrmQ) ?_)
    | ((with_reducible refine WL.isN_bin ?_); first | refine WL.yld rfl (Yld.pure rfl nrmQ) ?_ | refine WL.yld rfl (Yld.rem rfl rfl rfl rfl (by omega) (by omega)) ?_ | refine WL.yld rfl (Yld.quo rfl rfl rfl rfl (by omega) (by omega) nrmQ) ?_ | refine WL.yld rfl (Yld.eqlB rfl rfl rfl rfl) ?_ | refine WL.yld rfl (Yld.neqB rfl rfl rfl rfl) ?_ | refine WL.yld rfl (Yld.eqlA 4 rfl rfl rfl (by kernel_rfl) (by kernel_rfl) rfl rfl) ?_ | refine WL.yld rfl (Yld.neqA 4 rfl rfl rfl (by kernel_rfl) (by kernel_rfl) rfl rfl) ?_ | refine WL.yld rfl (Yld.quoT rfl rfl rfl rfl (by omega) nrmQ) ?_)
    | ((with_reducible refine WL.isN_un ?_); first | refine WL.yld rfl (Yld.pure rfl nrmQ) ?_)
    | ((with_reducible refine WL.isN_extract ?_); first | refine WL.yld rfl (Yld.pure rfl nrmQ) ?_)
    | ((with_reducible refine WL.isN_load ?_); first | refine WL.yld rfl (Yld.load rfl rfl rfl rfl cellQ) ?_ | refine WL.yld rfl (Yld.loadAgg rfl rfl rfl rfl rfl aggQ) ?_)
    | ((with_reducible refine WL.isN_faddr ?_); first | refine WL.yld rfl (Yld.fieldAddr rfl rfl rfl rfl rfl rfl rfl) ?_)
    | ((with_reducible refine WL.isN_iaddr ?_); first | refine WL.yld rfl (Yld.indexS 0 rfl rfl rfl rfl rfl rfl (by omega)) ?_ | refine WL.yld rfl (Yld.indexS 1 rfl rfl rfl rfl rfl rfl (by omega)) ?_ | refine WL.yld rfl (Yld.indexS 2 rfl rfl rfl rfl rfl rfl (by omega)) ?_ | refine WL.yld rfl (Yld.indexS _ rfl rfl rfl rfl rfl rfl (by omega)) ?_ | refine WL.yld rfl (Yld.indexA 0 rfl rfl rfl rfl rfl rfl (by omega)) ?_ | refine WL.yld rfl (Yld.indexA 1 rfl rfl rfl rfl rfl rfl (by omega)) ?_ | refine WL.yld rfl (Yld.indexA _ rfl rfl rfl rfl rfl rfl (by omega)) ?_)
    | ((with_reducible refine WL.isN_pick ?_); first | refine WL.yld rfl (Yld.pickT rfl rfl rfl) ?_ | refine WL.yld rfl (Yld.pickF rfl rfl rfl) ?_ | refine WL.yld rfl (Yld.pickTh rfl rfl gdQ rfl) ?_ | refine WL.yld rfl (Yld.pickFh rfl rfl gdQ rfl) ?_ | refine WL.yld rfl (Yld.pickB rfl rfl rfl rfl) ?_)
    | ((with_reducible refine WL.isN_call ?_); first | refine WL.step rfl (StepTo.callV (v := .bool true) (us := [.slice C1 nl z1, .slice M ml cm]) rfl rfl rfl rfl rfl (by kernel_rfl) (fun w hw => sameAll_n C1 nl z1 M ml cm rl w (hw.lst 0 Msg.cs_len (by omega) rfl) (hw.lst 4 Msg.cs_len (by omega) rfl)) ?_) | refine WL.yld rfl (Yld.lenSlice rfl rfl rfl) ?_ | refine WL.yld rfl (Yld.lenStr rfl rfl rfl) ?_)
    | ((with_reducible refine WL.isT ?_); first | refine WL.skipT rfl rfl rfl rfl gdQ ?_ | refine WL.skipU rfl rfl rfl rfl ?_ | refine WL.runT rfl rfl rfl gdQ ?_)
    | ((with_reducible refine WL.isF ?_); first | refine WL.skipF rfl rfl rfl rfl gdQ ?_ | refine WL.skipU rfl rfl rfl rfl ?_ | refine WL.runF rfl rfl rfl gdQ ?_)
    | ((with_reducible refine WL.isN_alloc ?_); first | refine WL.step rfl (StepTo.allocA rfl rfl rfl rfl (fun _ => ?_)) | refine WL.step rfl (StepTo.alloc1 rfl rfl rfl rfl rfl (fun _ => ?_)))
    | ((with_reducible refine WL.isN_store ?_); first | refine WL.step rfl (StepTo.st1 rfl rfl rfl rfl rfl rfl ?_) | refine WL.step rfl (StepTo.stA rfl rfl rfl rfl rfl rfl rfl ?_) | refine WL.step rfl (StepTo.stR rfl rfl rfl rfl rfl rfl rfl ?_))
    | with_reducible refine WC.block ?_
    | with_reducible refine WC.scope ?_
    | with_reducible refine WC.label ?_
    | with_reducible refine WQ.ngN ?_
    | with_reducible refine WQ.ngR ?_
    | with_reducible refine WQ.ngX ?_
    | with_reducible refine WC.skip ?_
    | with_reducible refine WC.ret ?_
    | with_reducible refine WC.exit ?_
    | with_reducible refine WQ.thenR ?_
    | with_reducible refine WQ.thenX ?_
    | with_reducible refine WQ.blkN ?_
    | with_reducible refine WQ.blkR ?_
    | ((with_reducible refine WQ.blkX ?_ ?_); focus rfl)
    | ((with_reducible refine WQ.blkY ?_ ?_); focus rfl)
    | refine WC.condT rfl ?_
    | refine WC.condF rfl ?_
    | refine WC.condTh rfl gdQ ?_
    | refine WC.condFh rfl gdQ ?_
    | (refine WC.cond rfl (fun hc => ?_) (fun hc => ?_) <;> (try first | (with_reducible replace hc := of_decide_eq_true hc) | (with_reducible replace hc := of_decide_eq_false hc) | (with_reducible replace hc := eqT hc) | (with_reducible replace hc := eqF hc) | (with_reducible replace hc := neT hc) | (with_reducible replace hc := neF hc) | (with_reducible replace hc := noT hc) | (with_reducible replace hc := noF hc)) <;> (try (exfalso; omega))))
    · have hrc : rc = 0 := by assumption
      obtain ⟨hq', _, _⟩ := hok hrc
      have hqn := hq'.len
      obtain rfl : k1 = k := by omega
      obtain rfl : k2 = k1 := by omega
      obtain rfl : n2 = n1 := by omega
      have hwm : ∀ m ∈ rw_, U16M m := fun m hm => (hq'.all m hm).1
      have hwt : ∀ m ∈ rw_, m.text.size ≤ 1000000 := fun m hm => by have := (hq'.all m hm).2.2; omega
      have hwl := hq'.most
      have hb1 : bytesF rw_ ≤ rw_.length * 1000000 := bytesF_le hwt
      repeat' (first
    | with_reducible refine WL.nil ?_
    | with_reducible refine WQ.thenN ?_
    | with_reducible refine WQ.code ?_
    | with_reducible refine WC.seq ?_
    | with_reducible refine WC.region ?_
    | ((with_reducible refine WL.isN_move ?_); first | refine WL.yld rfl (Yld.pure rfl nrmQ) ?_)
    | ((with_reducible refine WK.isN_move ?_); first | refine WK.yld rfl (Yld.pure rfl nrmQ) ?_)
    | ((with_reducible refine WL.isN_assign ?_); first | refine WL.yld rfl (Yld.pure rfl nrmQ) ?_)
    | ((with_reducible refine WK.isN_assign ?_); first | refine WK.yld rfl (Yld.pure rfl nrmQ) ?_)
    | ((with_reducible refine WL.isN_bin ?_); first | refine WL.yld rfl (Yld.pure rfl nrmQ) ?_ | refine WL.yld rfl (Yld.rem rfl rfl rfl rfl (by omega) (by omega)) ?_ | refine WL.yld rfl (Yld.quo rfl rfl rfl rfl (by omega) (by omega) nrmQ) ?_ | refine WL.yld rfl (Yld.eqlB rfl rfl rfl rfl) ?_ | refine WL.yld rfl (Yld.neqB rfl rfl rfl rfl) ?_ | refine WL.yld rfl (Yld.eqlA 4 rfl rfl rfl (by kernel_rfl) (by kernel_rfl) rfl rfl) ?_ | refine WL.yld rfl (Yld.neqA 4 rfl rfl rfl (by kernel_rfl) (by kernel_rfl) rfl rfl) ?_ | refine WL.yld rfl (Yld.quoT rfl rfl rfl rfl (by omega) nrmQ) ?_)
    | ((with_reducible refine WK.isN_bin ?_); first | refine WK.yld rfl (Yld.pure rfl nrmQ) ?_ | refine WK.yld rfl (Yld.rem rfl rfl rfl rfl (by omega) (by omega)) ?_ | refine WK.yld rfl (Yld.quo rfl rfl rfl rfl (by omega) (by omega) nrmQ) ?_ | refine WK.yld rfl (Yld.eqlB rfl rfl rfl rfl) ?_ | refine WK.yld rfl (Yld.neqB rfl rfl rfl rfl) ?_ | refine WK.yld rfl (Yld.eqlA 4 rfl rfl rfl (by kernel_rfl) (by kernel_rfl) rfl rfl) ?_ | refine WK.yld rfl (Yld.neqA 4 rfl rfl rfl (by kernel_rfl) (by kernel_rfl) rfl rfl) ?_ | refine WK.yld rfl (Yld.quoT rfl rfl rfl rfl (by omega) nrmQ) ?_)
    | ((with_reducible refine WL.isN_un ?_); first | refine WL.yld rfl (Yld.pure rfl nrmQ) ?_)
    | ((with_reducible refine WK.isN_un ?_); first | refine WK.yld rfl (Yld.pure rfl nrmQ) ?_)
    | ((with_reducible refine WL.isN_extract ?_); first | refine WL.yld rfl (Yld.pure rfl nrmQ) ?_)
    | ((with_reducible refine WK.isN_extract ?_); first | refine WK.yld rfl (Yld.pure rfl nrmQ) ?_)
    | ((with_reducible refine WL.isN_load ?_); first | refine WL.yld rfl (Yld.load rfl rfl rfl rfl (CellAt.vwP 15 rfl (by omega) hpx rfl)) ?_ | refine WL.yld rfl (Yld.load rfl rfl rfl rfl cellQ) ?_ | refine WL.yld rfl (Yld.loadAgg rfl rfl rfl rfl rfl aggQ) ?_)
    | ((with_reducible refine WK.isN_load ?_); first | refine WK.yld rfl (Yld.load rfl rfl rfl rfl (CellAt.vwP 15 rfl (by omega) hpx rfl)) ?_ | refine WK.yld rfl (Yld.load rfl rfl rfl rfl cellQ) ?_ | refine WK.yld rfl (Yld.loadAgg rfl rfl rfl rfl rfl aggQ) ?_)
    | ((with_reducible refine WL.isN_faddr ?_); first | refine WL.yld rfl (Yld.fieldAddr rfl rfl rfl rfl rfl rfl rfl) ?_)
    | ((with_reducible refine WK.isN_faddr ?_); first | refine WK.yld rfl (Yld.fieldAddr rfl rfl rfl rfl rfl rfl rfl) ?_)
    | ((with_reducible refine WL.isN_iaddr ?_); first | refine WL.yld rfl (Yld.indexS 0 rfl rfl rfl rfl rfl rfl (by omega)) ?_ | refine WL.yld rfl (Yld.indexS 1 rfl rfl rfl rfl rfl rfl (by omega)) ?_ | refine WL.yld rfl (Yld.indexS 2 rfl rfl rfl rfl rfl rfl (by omega)) ?_ | refine WL.yld rfl (Yld.indexS _ rfl rfl rfl rfl rfl rfl (by omega)) ?_ | refine WL.yld rfl (Yld.indexA 0 rfl rfl rfl rfl rfl rfl (by omega)) ?_ | refine WL.yld rfl (Yld.indexA 1 rfl rfl rfl rfl rfl rfl (by omega)) ?_ | refine WL.yld rfl (Yld.indexA _ rfl rfl rfl rfl rfl rfl (by omega)) ?_)
    | ((with_reducible refine WK.isN_iaddr ?_); first | refine WK.yld rfl (Yld.indexS 0 rfl rfl rfl rfl rfl rfl (by omega)) ?_ | refine WK.yld rfl (Yld.indexS 1 rfl rfl rfl rfl rfl rfl (by omega)) ?_ | refine WK.yld rfl (Yld.indexS 2 rfl rfl rfl rfl rfl rfl (by omega)) ?_ | refine WK.yld rfl (Yld.indexS _ rfl rfl rfl rfl rfl rfl (by omega)) ?_ | refine WK.yld rfl (Yld.indexA 0 rfl rfl rfl rfl rfl rfl (by omega)) ?_ | refine WK.yld rfl (Yld.indexA 1 rfl rfl rfl rfl rfl rfl (by omega)) ?_ | refine WK.yld rfl (Yld.indexA _ rfl rfl rfl rfl rfl rfl (by omega)) ?_)
    | ((with_reducible refine WL.isN_pick ?_); first | refine WL.yld rfl (Yld.pickT rfl rfl rfl) ?_ | refine WL.yld rfl (Yld.pickF rfl rfl rfl) ?_ | refine WL.yld rfl (Yld.pickTh rfl rfl gdQ rfl) ?_ | refine WL.yld rfl (Yld.pickFh rfl rfl gdQ rfl) ?_ | refine WL.yld rfl (Yld.pickB rfl rfl rfl rfl) ?_)
    | ((with_reducible refine WK.isN_pick ?_); first | refine WK.yld rfl (Yld.pickT rfl rfl rfl) ?_ | refine WK.yld rfl (Yld.pickF rfl rfl rfl) ?_ | refine WK.yld rfl (Yld.pickTh rfl rfl gdQ rfl) ?_ | refine WK.yld rfl (Yld.pickFh rfl rfl gdQ rfl) ?_ | refine WK.yld rfl (Yld.pickB rfl rfl rfl rfl) ?_)
    | ((with_reducible refine WL.isN_call ?_); first | refine WK.step rfl (Qui.call (v := .bool true) (us := [.agg #[.slice A1 k2 d1, .slice B1 n2 e1], .agg #[.slice A2 k2 d2, .slice B2 n2 e2]]) rfl rfl rfl (by kernel_rfl) (fun w hw => same_n A1 k2 d1 B1 n2 e1 A2 k2 d2 B2 n2 e2 rn rw_ w (hw.lst 6 u16c_len (by omega) rfl) (hw.lst 7 Msg.cs_len (by omega) rfl) (hw.lst 2 u16c_len (by omega) rfl) (hw.lst 3 Msg.cs_len (by omega) rfl) (by omega) (by omega))) ?_ | refine WK.step rfl (Qui.call (v := .int .i64 (waitsF x.to_ rw_ : Nat)) (us := [.agg #[.slice A1 k2 d1, .slice B1 n2 e1], .int .i64 x.to_]) rfl rfl rfl (by kernel_rfl) (fun w hw => waits_any (.slice A1 k2 d1) rfl B1 n2 e1 rw_ x.to_ w (hw.lst 7 Msg.cs_len (by omega) rfl) hwm)) ?_ | refine WK.step rfl (Qui.call (v := .int .i64 (waitsF x.to_ rw_ : Nat)) (us := [.agg #[.slice A2 k2 d2, .slice B2 n2 e2], .int .i64 x.to_]) rfl rfl rfl (by kernel_rfl) (fun w hw => rwaits_q (.slice A2 k2 d2) rfl B2 n2 e2 rw_ x.to_ w (hw.lst 3 Msg.cs_len (by omega) rfl) hwm)) ?_ | refine WK.step rfl (Qui.call (v := .int .i64 (bytesF rw_ : Nat)) (us := [.agg #[.slice A1 k2 d1, .slice B1 n2 e1]]) rfl rfl rfl (by kernel_rfl) (fun w hw => bytes_any (.slice A1 k2 d1) rfl B1 n2 e1 rw_ w (hw.lst 7 Msg.cs_len (by omega) rfl) (by omega) hwt)) ?_ | refine WK.step rfl (Qui.call (v := .int .i64 (bytesF rw_ : Nat)) (us := [.agg #[.slice A2 k2 d2, .slice B2 n2 e2]]) rfl rfl rfl (by kernel_rfl) (fun w hw => rbytes_q (.slice A2 k2 d2) rfl B2 n2 e2 rw_ w (hw.lst 3 Msg.cs_len (by omega) rfl) (by omega) hwt)) ?_ | refine WL.yld rfl (Yld.lenSlice rfl rfl rfl) ?_ | refine WL.yld rfl (Yld.lenStr rfl rfl rfl) ?_)
    | ((with_reducible refine WK.isN_call ?_); first | refine WK.step rfl (Qui.call (v := .bool true) (us := [.agg #[.slice A1 k2 d1, .slice B1 n2 e1], .agg #[.slice A2 k2 d2, .slice B2 n2 e2]]) rfl rfl rfl (by kernel_rfl) (fun w hw => same_n A1 k2 d1 B1 n2 e1 A2 k2 d2 B2 n2 e2 rn rw_ w (hw.lst 6 u16c_len (by omega) rfl) (hw.lst 7 Msg.cs_len (by omega) rfl) (hw.lst 2 u16c_len (by omega) rfl) (hw.lst 3 Msg.cs_len (by omega) rfl) (by omega) (by omega))) ?_ | refine WK.step rfl (Qui.call (v := .int .i64 (waitsF x.to_ rw_ : Nat)) (us := [.agg #[.slice A1 k2 d1, .slice B1 n2 e1], .int .i64 x.to_]) rfl rfl rfl (by kernel_rfl) (fun w hw => waits_any (.slice A1 k2 d1) rfl B1 n2 e1 rw_ x.to_ w (hw.lst 7 Msg.cs_len (by omega) rfl) hwm)) ?_ | refine WK.step rfl (Qui.call (v := .int .i64 (waitsF x.to_ rw_ : Nat)) (us := [.agg #[.slice A2 k2 d2, .slice B2 n2 e2], .int .i64 x.to_]) rfl rfl rfl (by kernel_rfl) (fun w hw => rwaits_q (.slice A2 k2 d2) rfl B2 n2 e2 rw_ x.to_ w (hw.lst 3 Msg.cs_len (by omega) rfl) hwm)) ?_ | refine WK.step rfl (Qui.call (v := .int .i64 (bytesF rw_ : Nat)) (us := [.agg #[.slice A1 k2 d1, .slice B1 n2 e1]]) rfl rfl rfl (by kernel_rfl) (fun w hw => bytes_any (.slice A1 k2 d1) rfl B1 n2 e1 rw_ w (hw.lst 7 Msg.cs_len (by omega) rfl) (by omega) hwt)) ?_ | refine WK.step rfl (Qui.call (v := .int .i64 (bytesF rw_ : Nat)) (us := [.agg #[.slice A2 k2 d2, .slice B2 n2 e2]]) rfl rfl rfl (by kernel_rfl) (fun w hw => rbytes_q (.slice A2 k2 d2) rfl B2 n2 e2 rw_ w (hw.lst 3 Msg.cs_len (by omega) rfl) (by omega) hwt)) ?_ | refine WK.yld rfl (Yld.lenSlice rfl rfl rfl) ?_ | refine WK.yld rfl (Yld.lenStr rfl rfl rfl) ?_)
    | ((with_reducible refine WL.isT ?_); first | refine WL.skipT rfl rfl rfl rfl gdQ ?_ | refine WL.skipU rfl rfl rfl rfl ?_ | refine WL.runT rfl rfl rfl gdQ ?_)
    | ((with_reducible refine WK.isT ?_); first | refine WK.skipT rfl rfl rfl rfl gdQ ?_ | refine WK.skipU rfl rfl rfl rfl ?_ | refine WK.runT rfl rfl rfl gdQ ?_)
    | ((with_reducible refine WL.isF ?_); first | refine WL.skipF rfl rfl rfl rfl gdQ ?_ | refine WL.skipU rfl rfl rfl rfl ?_ | refine WL.runF rfl rfl rfl gdQ ?_)
    | ((with_reducible refine WK.isF ?_); first | refine WK.skipF rfl rfl rfl rfl gdQ ?_ | refine WK.skipU rfl rfl rfl rfl ?_ | refine WK.runF rfl rfl rfl gdQ ?_)
    | ((with_reducible refine WL.isN_alloc ?_); first | refine WL.step rfl (StepTo.allocA rfl rfl rfl rfl (fun _ => ?_)) | refine WL.step rfl (StepTo.alloc1 rfl rfl rfl rfl rfl (fun _ => ?_)))
    | ((with_reducible refine WL.isN_store ?_); first | refine WL.step rfl (StepTo.st1 rfl rfl rfl rfl rfl rfl ?_) | refine WL.step rfl (StepTo.stA rfl rfl rfl rfl rfl rfl rfl ?_) | refine WL.step rfl (StepTo.stR rfl rfl rfl rfl rfl rfl rfl ?_))
    | with_reducible refine WC.block ?_
    | with_reducible refine WC.scope ?_
    | with_reducible refine WC.label ?_
    | with_reducible refine WQ.ngN ?_
    | with_reducible refine WQ.ngR ?_
    | with_reducible refine WQ.ngX ?_
    | with_reducible refine WC.skip ?_
    | with_reducible refine WC.ret ?_
    | with_reducible refine WC.exit ?_
    | with_reducible refine WQ.thenR ?_
    | with_reducible refine WQ.thenX ?_
    | with_reducible refine WQ.blkN ?_
    | with_reducible refine WQ.blkR ?_
    | ((with_reducible refine WQ.blkX ?_ ?_); focus rfl)
    | ((with_reducible refine WQ.blkY ?_ ?_); focus rfl)
    | (refine WC.quiet (i := 23) (by kernel_rfl) (by kernel_rfl) ?_)
    | with_reducible refine WK.nil ?_
    | refine WC.condT rfl ?_
    | refine WC.condF rfl ?_
    | refine WC.condTh rfl gdQ ?_
    | refine WC.condFh rfl gdQ ?_
    | (refine WC.cond rfl (fun hc => ?_) (fun hc => ?_) <;> (try first | (with_reducible replace hc := of_decide_eq_true hc) | (with_reducible replace hc := of_decide_eq_false hc) | (with_reducible replace hc := eqT hc) | (with_reducible replace hc := eqF hc) | (with_reducible replace hc := neT hc) | (with_reducible replace hc := neF hc) | (with_reducible replace hc := noT hc) | (with_reducible replace hc := noF hc)) <;> (try (exfalso; omega))))
      exact WQ.rnd (n - (i + 1)) _ _ [9, 2, 3, 12, 6, 7, 15] (by repeat (first | exact Sub.nil | refine Sub.cons rfl ?_ | refine Sub.consE rfl (int_eq (by omega)) ?_)) ⟨by decide, rfl⟩ (by omega) ⟨i + 1, A1, B1, A2, B2, d1, n2, e1, d2, e2, rn, rw_, by omega, rfl, hq', l2, q1, q2, q3, q4, rfl, rfl⟩
    · have hq' : QOk k (i + 1) PM next wait := hq.later (by omega)
      have hwm : ∀ m ∈ wait, U16M m := fun m hm => (hq'.all m hm).1
      have hwt : ∀ m ∈ wait, m.text.size ≤ 1000000 := fun m hm => by have := (hq'.all m hm).2.2; omega
      have hwl := hq'.most
      have hb1 : bytesF wait ≤ wait.length * 1000000 := bytesF_le hwt
      repeat' (first
    | with_reducible refine WL.nil ?_
    | with_reducible refine WQ.thenN ?_
    | with_reducible refine WQ.code ?_
    | with_reducible refine WC.seq ?_
    | with_reducible refine WC.region ?_
    | ((with_reducible refine WL.isN_move ?_); first | refine WL.yld rfl (Yld.pure rfl nrmQ) ?_)
    | ((with_reducible refine WK.isN_move ?_); first | refine WK.yld rfl (Yld.pure rfl nrmQ) ?_)
    | ((with_reducible refine WL.isN_assign ?_); first | refine WL.yld rfl (Yld.pure rfl nrmQ) ?_)
    | ((with_reducible refine WK.isN_assign ?_); first | refine WK.yld rfl (Yld.pure rfl nrmQ) ?_)
    | ((with_reducible refine WL.isN_bin ?_); first | refine WL.yld rfl (Yld.pure rfl nrmQ) ?_ | refine WL.yld rfl (Yld.rem rfl rfl rfl rfl (by omega) (by omega)) ?_ | refine WL.yld rfl (Yld.quo rfl rfl rfl rfl (by omega) (by omega) nrmQ) ?_ | refine WL.yld rfl (Yld.eqlB rfl rfl rfl rfl) ?_ | refine WL.yld rfl (Yld.neqB rfl rfl rfl rfl) ?_ | refine WL.yld rfl (Yld.eqlA 4 rfl rfl rfl (by kernel_rfl) (by kernel_rfl) rfl rfl) ?_ | refine WL.yld rfl (Yld.neqA 4 rfl rfl rfl (by kernel_rfl) (by kernel_rfl) rfl rfl) ?_ | refine WL.yld rfl (Yld.quoT rfl rfl rfl rfl (by omega) nrmQ) ?_)
    | ((with_reducible refine WK.isN_bin ?_); first | refine WK.yld rfl (Yld.pure rfl nrmQ) ?_ | refine WK.yld rfl (Yld.rem rfl rfl rfl rfl (by omega) (by omega)) ?_ | refine WK.yld rfl (Yld.quo rfl rfl rfl rfl (by omega) (by omega) nrmQ) ?_ | refine WK.yld rfl (Yld.eqlB rfl rfl rfl rfl) ?_ | refine WK.yld rfl (Yld.neqB rfl rfl rfl rfl) ?_ | refine WK.yld rfl (Yld.eqlA 4 rfl rfl rfl (by kernel_rfl) (by kernel_rfl) rfl rfl) ?_ | refine WK.yld rfl (Yld.neqA 4 rfl rfl rfl (by kernel_rfl) (by kernel_rfl) rfl rfl) ?_ | refine WK.yld rfl (Yld.quoT rfl rfl rfl rfl (by omega) nrmQ) ?_)
    | ((with_reducible refine WL.isN_un ?_); first | refine WL.yld rfl (Yld.pure rfl nrmQ) ?_)
    | ((with_reducible refine WK.isN_un ?_); first | refine WK.yld rfl (Yld.pure rfl nrmQ) ?_)
    | ((with_reducible refine WL.isN_extract ?_); first | refine WL.yld rfl (Yld.pure rfl nrmQ) ?_)
    | ((with_reducible refine WK.isN_extract ?_); first | refine WK.yld rfl (Yld.pure rfl nrmQ) ?_)
    | ((with_reducible refine WL.isN_load ?_); first | refine WL.yld rfl (Yld.load rfl rfl rfl rfl (CellAt.vwP 15 rfl (by omega) hpx rfl)) ?_ | refine WL.yld rfl (Yld.load rfl rfl rfl rfl cellQ) ?_ | refine WL.yld rfl (Yld.loadAgg rfl rfl rfl rfl rfl aggQ) ?_)
    | ((with_reducible refine WK.isN_load ?_); first | refine WK.yld rfl (Yld.load rfl rfl rfl rfl (CellAt.vwP 15 rfl (by omega) hpx rfl)) ?_ | refine WK.yld rfl (Yld.load rfl rfl rfl rfl cellQ) ?_ | refine WK.yld rfl (Yld.loadAgg rfl rfl rfl rfl rfl aggQ) ?_)
    | ((with_reducible refine WL.isN_faddr ?_); first | refine WL.yld rfl (Yld.fieldAddr rfl rfl rfl rfl rfl rfl rfl) ?_)
    | ((with_reducible refine WK.isN_faddr ?_); first | refine WK.yld rfl (Yld.fieldAddr rfl rfl rfl rfl rfl rfl rfl) ?_)
    | ((with_reducible refine WL.isN_iaddr ?_); first | refine WL.yld rfl (Yld.indexS 0 rfl rfl rfl rfl rfl rfl (by omega)) ?_ | refine WL.yld rfl (Yld.indexS 1 rfl rfl rfl rfl rfl rfl (by omega)) ?_ | refine WL.yld rfl (Yld.indexS 2 rfl rfl rfl rfl rfl rfl (by omega)) ?_ | refine WL.yld rfl (Yld.indexS _ rfl rfl rfl rfl rfl rfl (by omega)) ?_ | refine WL.yld rfl (Yld.indexA 0 rfl rfl rfl rfl rfl rfl (by omega)) ?_ | refine WL.yld rfl (Yld.indexA 1 rfl rfl rfl rfl rfl rfl (by omega)) ?_ | refine WL.yld rfl (Yld.indexA _ rfl rfl rfl rfl rfl rfl (by omega)) ?_)
    | ((with_reducible refine WK.isN_iaddr ?_); first | refine WK.yld rfl (Yld.indexS 0 rfl rfl rfl rfl rfl rfl (by omega)) ?_ | refine WK.yld rfl (Yld.indexS 1 rfl rfl rfl rfl rfl rfl (by omega)) ?_ | refine WK.yld rfl (Yld.indexS 2 rfl rfl rfl rfl rfl rfl (by omega)) ?_ | refine WK.yld rfl (Yld.indexS _ rfl rfl rfl rfl rfl rfl (by omega)) ?_ | refine WK.yld rfl (Yld.indexA 0 rfl rfl rfl rfl rfl rfl (by omega)) ?_ | refine WK.yld rfl (Yld.indexA 1 rfl rfl rfl rfl rfl rfl (by omega)) ?_ | refine WK.yld rfl (Yld.indexA _ rfl rfl rfl rfl rfl rfl (by omega)) ?_)
    | ((with_reducible refine WL.isN_pick ?_); first | refine WL.yld rfl (Yld.pickT rfl rfl rfl) ?_ | refine WL.yld rfl (Yld.pickF rfl rfl rfl) ?_ | refine WL.yld rfl (Yld.pickTh rfl rfl gdQ rfl) ?_ | refine WL.yld rfl (Yld.pickFh rfl rfl gdQ rfl) ?_ | refine WL.yld rfl (Yld.pickB rfl rfl rfl rfl) ?_)
    | ((with_reducible refine WK.isN_pick ?_); first | refine WK.yld rfl (Yld.pickT rfl rfl rfl) ?_ | refine WK.yld rfl (Yld.pickF rfl rfl rfl) ?_ | refine WK.yld rfl (Yld.pickTh rfl rfl gdQ rfl) ?_ | refine WK.yld rfl (Yld.pickFh rfl rfl gdQ rfl) ?_ | refine WK.yld rfl (Yld.pickB rfl rfl rfl rfl) ?_)
    | ((with_reducible refine WL.isN_call ?_); first | refine WK.step rfl (Qui.call (v := .bool true) (us := [.agg #[.slice AN k cN, .slice AW nW cW], .agg #[.slice BN k dN, .slice BW nW dW]]) rfl rfl rfl (by kernel_rfl) (fun w hw => same_n AN k cN AW nW cW BN k dN BW nW dW next wait w (hw.lst 13 u16c_len (by omega) rfl) (hw.lst 14 Msg.cs_len (by omega) rfl) (hw.lst 10 u16c_len (by omega) rfl) (hw.lst 11 Msg.cs_len (by omega) rfl) (by omega) (by omega))) ?_ | refine WK.step rfl (Qui.call (v := .int .i64 (waitsF x.to_ wait : Nat)) (us := [.agg #[.slice AN k cN, .slice AW nW cW], .int .i64 x.to_]) rfl rfl rfl (by kernel_rfl) (fun w hw => waits_any (.slice AN k cN) rfl AW nW cW wait x.to_ w (hw.lst 14 Msg.cs_len (by omega) rfl) hwm)) ?_ | refine WK.step rfl (Qui.call (v := .int .i64 (waitsF x.to_ wait : Nat)) (us := [.agg #[.slice BN k dN, .slice BW nW dW], .int .i64 x.to_]) rfl rfl rfl (by kernel_rfl) (fun w hw => rwaits_q (.slice BN k dN) rfl BW nW dW wait x.to_ w (hw.lst 11 Msg.cs_len (by omega) rfl) hwm)) ?_ | refine WK.step rfl (Qui.call (v := .int .i64 (bytesF wait : Nat)) (us := [.agg #[.slice AN k cN, .slice AW nW cW]]) rfl rfl rfl (by kernel_rfl) (fun w hw => bytes_any (.slice AN k cN) rfl AW nW cW wait w (hw.lst 14 Msg.cs_len (by omega) rfl) (by omega) hwt)) ?_ | refine WK.step rfl (Qui.call (v := .int .i64 (bytesF wait : Nat)) (us := [.agg #[.slice BN k dN, .slice BW nW dW]]) rfl rfl rfl (by kernel_rfl) (fun w hw => rbytes_q (.slice BN k dN) rfl BW nW dW wait w (hw.lst 11 Msg.cs_len (by omega) rfl) (by omega) hwt)) ?_ | refine WL.yld rfl (Yld.lenSlice rfl rfl rfl) ?_ | refine WL.yld rfl (Yld.lenStr rfl rfl rfl) ?_)
    | ((with_reducible refine WK.isN_call ?_); first | refine WK.step rfl (Qui.call (v := .bool true) (us := [.agg #[.slice AN k cN, .slice AW nW cW], .agg #[.slice BN k dN, .slice BW nW dW]]) rfl rfl rfl (by kernel_rfl) (fun w hw => same_n AN k cN AW nW cW BN k dN BW nW dW next wait w (hw.lst 13 u16c_len (by omega) rfl) (hw.lst 14 Msg.cs_len (by omega) rfl) (hw.lst 10 u16c_len (by omega) rfl) (hw.lst 11 Msg.cs_len (by omega) rfl) (by omega) (by omega))) ?_ | refine WK.step rfl (Qui.call (v := .int .i64 (waitsF x.to_ wait : Nat)) (us := [.agg #[.slice AN k cN, .slice AW nW cW], .int .i64 x.to_]) rfl rfl rfl (by kernel_rfl) (fun w hw => waits_any (.slice AN k cN) rfl AW nW cW wait x.to_ w (hw.lst 14 Msg.cs_len (by omega) rfl) hwm)) ?_ | refine WK.step rfl (Qui.call (v := .int .i64 (waitsF x.to_ wait : Nat)) (us := [.agg #[.slice BN k dN, .slice BW nW dW], .int .i64 x.to_]) rfl rfl rfl (by kernel_rfl) (fun w hw => rwaits_q (.slice BN k dN) rfl BW nW dW wait x.to_ w (hw.lst 11 Msg.cs_len (by omega) rfl) hwm)) ?_ | refine WK.step rfl (Qui.call (v := .int .i64 (bytesF wait : Nat)) (us := [.agg #[.slice AN k cN, .slice AW nW cW]]) rfl rfl rfl (by kernel_rfl) (fun w hw => bytes_any (.slice AN k cN) rfl AW nW cW wait w (hw.lst 14 Msg.cs_len (by omega) rfl) (by omega) hwt)) ?_ | refine WK.step rfl (Qui.call (v := .int .i64 (bytesF wait : Nat)) (us := [.agg #[.slice BN k dN, .slice BW nW dW]]) rfl rfl rfl (by kernel_rfl) (fun w hw => rbytes_q (.slice BN k dN) rfl BW nW dW wait w (hw.lst 11 Msg.cs_len (by omega) rfl) (by omega) hwt)) ?_ | refine WK.yld rfl (Yld.lenSlice rfl rfl rfl) ?_ | refine WK.yld rfl (Yld.lenStr rfl rfl rfl) ?_)
    | ((with_reducible refine WL.isT ?_); first | refine WL.skipT rfl rfl rfl rfl gdQ ?_ | refine WL.skipU rfl rfl rfl rfl ?_ | refine WL.runT rfl rfl rfl gdQ ?_)
    | ((with_reducible refine WK.isT ?_); first | refine WK.skipT rfl rfl rfl rfl gdQ ?_ | refine WK.skipU rfl rfl rfl rfl ?_ | refine WK.runT rfl rfl rfl gdQ ?_)
    | ((with_reducible refine WL.isF ?_); first | refine WL.skipF rfl rfl rfl rfl gdQ ?_ | refine WL.skipU rfl rfl rfl rfl ?_ | refine WL.runF rfl rfl rfl gdQ ?_)
    | ((with_reducible refine WK.isF ?_); first | refine WK.skipF rfl rfl rfl rfl gdQ ?_ | refine WK.skipU rfl rfl rfl rfl ?_ | refine WK.runF rfl rfl rfl gdQ ?_)
    | ((with_reducible refine WL.isN_alloc ?_); first | refine WL.step rfl (StepTo.allocA rfl rfl rfl rfl (fun _ => ?_)) | refine WL.step rfl (StepTo.alloc1 rfl rfl rfl rfl rfl (fun _ => ?_)))
    | ((with_reducible refine WL.isN_store ?_); first | refine WL.step rfl (StepTo.st1 rfl rfl rfl rfl rfl rfl ?_) | refine WL.step rfl (StepTo.stA rfl rfl rfl rfl rfl rfl rfl ?_) | refine WL.step rfl (StepTo.stR rfl rfl rfl rfl rfl rfl rfl ?_))
    | with_reducible refine WC.block ?_
    | with_reducible refine WC.scope ?_
    | with_reducible refine WC.label ?_
    | with_reducible refine WQ.ngN ?_
    | with_reducible refine WQ.ngR ?_
    | with_reducible refine WQ.ngX ?_
    | with_reducible refine WC.skip ?_
    | with_reducible refine WC.ret ?_
    | with_reducible refine WC.exit ?_
    | with_reducible refine WQ.thenR ?_
    | with_reducible refine WQ.thenX ?_
    | with_reducible refine WQ.blkN ?_
    | with_reducible refine WQ.blkR ?_
    | ((with_reducible refine WQ.blkX ?_ ?_); focus rfl)
    | ((with_reducible refine WQ.blkY ?_ ?_); focus rfl)
    | (refine WC.quiet (i := 23) (by kernel_rfl) (by kernel_rfl) ?_)
    | with_reducible refine WK.nil ?_
    | refine WC.condT rfl ?_
    | refine WC.condF rfl ?_
    | refine WC.condTh rfl gdQ ?_
    | refine WC.condFh rfl gdQ ?_
    | (refine WC.cond rfl (fun hc => ?_) (fun hc => ?_) <;> (try first | (with_reducible replace hc := of_decide_eq_true hc) | (with_reducible replace hc := of_decide_eq_false hc) | (with_reducible replace hc := eqT hc) | (with_reducible replace hc := eqF hc) | (with_reducible replace hc := neT hc) | (with_reducible replace hc := neF hc) | (with_reducible replace hc := noT hc) | (with_reducible replace hc := noF hc)) <;> (try (exfalso; omega))))
      exact WQ.rnd (n - (i + 1)) _ _ [9, 10, 11, 12, 13, 14, 15] (by repeat (first | exact Sub.nil | refine Sub.cons rfl ?_ | refine Sub.consE rfl (int_eq (by omega)) ?_)) ⟨by decide, rfl⟩ (by omega) ⟨i + 1, AN, AW, BN, BW, cN, nW, cW, dN, dW, next, wait, by omega, rfl, hq', lW, okN, okW, okB, okC, rfl, rfl⟩
  · repeat' (first
    | with_reducible refine WL.nil ?_
    | with_reducible refine WQ.thenN ?_
    | with_reducible refine WQ.code ?_
    | with_reducible refine WC.seq ?_
    | with_reducible refine WC.region ?_
    | ((with_reducible refine WL.isN_move ?_); first | refine WL.yld rfl (Yld.pure rfl nrmQ) ?_)
    | ((with_reducible refine WL.isN_assign ?_); first | refine WL.yld rfl (Yld.pure rfl nrmQ) ?_)
    | ((with_reducible refine WL.isN_bin ?_); first | refine WL.yld rfl (Yld.pure rfl nrmQ) ?_ | refine WL.yld rfl (Yld.rem rfl rfl rfl rfl (by omega) (by omega)) ?_ | refine WL.yld rfl (Yld.quo rfl rfl rfl rfl (by omega) (by omega) nrmQ) ?_ | refine WL.yld rfl (Yld.eqlB rfl rfl rfl rfl) ?_ | refine WL.yld rfl (Yld.neqB rfl rfl rfl rfl) ?_ | refine WL.yld rfl (Yld.eqlA 4 rfl rfl rfl (by kernel_rfl) (by kernel_rfl) rfl rfl) ?_ | refine WL.yld rfl (Yld.neqA 4 rfl rfl rfl (by kernel_rfl) (by kernel_rfl) rfl rfl) ?_ | refine WL.yld rfl (Yld.quoT rfl rfl rfl rfl (by omega) nrmQ) ?_)
    | ((with_reducible refine WL.isN_un ?_); first | refine WL.yld rfl (Yld.pure rfl nrmQ) ?_)
    | ((with_reducible refine WL.isN_extract ?_); first | refine WL.yld rfl (Yld.pure rfl nrmQ) ?_)
    | ((with_reducible refine WL.isN_load ?_); first | refine WL.yld rfl (Yld.load rfl rfl rfl rfl cellQ) ?_ | refine WL.yld rfl (Yld.loadAgg rfl rfl rfl rfl rfl aggQ) ?_)
    | ((with_reducible refine WL.isN_faddr ?_); first | refine WL.yld rfl (Yld.fieldAddr rfl rfl rfl rfl rfl rfl rfl) ?_)
    | ((with_reducible refine WL.isN_iaddr ?_); first | refine WL.yld rfl (Yld.indexS 0 rfl rfl rfl rfl rfl rfl (by omega)) ?_ | refine WL.yld rfl (Yld.indexS 1 rfl rfl rfl rfl rfl rfl (by omega)) ?_ | refine WL.yld rfl (Yld.indexS 2 rfl rfl rfl rfl rfl rfl (by omega)) ?_ | refine WL.yld rfl (Yld.indexS _ rfl rfl rfl rfl rfl rfl (by omega)) ?_ | refine WL.yld rfl (Yld.indexA 0 rfl rfl rfl rfl rfl rfl (by omega)) ?_ | refine WL.yld rfl (Yld.indexA 1 rfl rfl rfl rfl rfl rfl (by omega)) ?_ | refine WL.yld rfl (Yld.indexA _ rfl rfl rfl rfl rfl rfl (by omega)) ?_)
    | ((with_reducible refine WL.isN_pick ?_); first | refine WL.yld rfl (Yld.pickT rfl rfl rfl) ?_ | refine WL.yld rfl (Yld.pickF rfl rfl rfl) ?_ | refine WL.yld rfl (Yld.pickTh rfl rfl gdQ rfl) ?_ | refine WL.yld rfl (Yld.pickFh rfl rfl gdQ rfl) ?_ | refine WL.yld rfl (Yld.pickB rfl rfl rfl rfl) ?_)
    | ((with_reducible refine WL.isN_call ?_); first | refine WL.yld rfl (Yld.lenSlice rfl rfl rfl) ?_ | refine WL.yld rfl (Yld.lenStr rfl rfl rfl) ?_)
    | ((with_reducible refine WL.isT ?_); first | refine WL.skipT rfl rfl rfl rfl gdQ ?_ | refine WL.skipU rfl rfl rfl rfl ?_ | refine WL.runT rfl rfl rfl gdQ ?_)
    | ((with_reducible refine WL.isF ?_); first | refine WL.skipF rfl rfl rfl rfl gdQ ?_ | refine WL.skipU rfl rfl rfl rfl ?_ | refine WL.runF rfl rfl rfl gdQ ?_)
    | ((with_reducible refine WL.isN_alloc ?_); first | refine WL.step rfl (StepTo.allocA rfl rfl rfl rfl (fun _ => ?_)) | refine WL.step rfl (StepTo.alloc1 rfl rfl rfl rfl rfl (fun _ => ?_)))
    | ((with_reducible refine WL.isN_store ?_); first | refine WL.step rfl (StepTo.st1 rfl rfl rfl rfl rfl rfl ?_) | refine WL.step rfl (StepTo.stA rfl rfl rfl rfl rfl rfl rfl ?_) | refine WL.step rfl (StepTo.stR rfl rfl rfl rfl rfl rfl rfl ?_))
    | with_reducible refine WC.block ?_
    | with_reducible refine WC.scope ?_
    | with_reducible refine WC.label ?_
    | with_reducible refine WQ.ngN ?_
    | with_reducible refine WQ.ngR ?_
    | with_reducible refine WQ.ngX ?_
    | with_reducible refine WC.skip ?_
    | with_reducible refine WC.ret ?_
    | with_reducible refine WC.exit ?_
    | with_reducible refine WQ.thenR ?_
    | with_reducible refine WQ.thenX ?_
    | with_reducible refine WQ.blkN ?_
    | with_reducible refine WQ.blkR ?_
    | ((with_reducible refine WQ.blkX ?_ ?_); focus rfl)
    | ((with_reducible refine WQ.blkY ?_ ?_); focus rfl)
    | refine WC.condT rfl ?_
    | refine WC.condF rfl ?_
    | refine WC.condTh rfl gdQ ?_
    | refine WC.condFh rfl gdQ ?_
    | (refine WC.cond rfl (fun hc => ?_) (fun hc => ?_) <;> (try first | (with_reducible replace hc := of_decide_eq_true hc) | (with_reducible replace hc := of_decide_eq_false hc) | (with_reducible replace hc := eqT hc) | (with_reducible replace hc := eqF hc) | (with_reducible replace hc := neT hc) | (with_reducible replace hc := neF hc) | (with_reducible replace hc := noT hc) | (with_reducible replace hc := noF hc)) <;> (try (exfalso; omega)))
    | exact WQ.body (Reads.tmp rfl rfl) (fun _ hw' => ⟨ret_bool gdQ, hw'.ext.below⟩))
theorem orderPlays_walk (s : Int) (A : Option Addr) (n c : Nat) (xs : List OAct) (w : World) (w0 : (Lit.int .i64 s).wf = true) (hL : Lst OAct.cs 8 w w.heap.size A n xs) (hxs : ∀ x ∈ xs, x.Ok ∧ x.m.text.size ≤ maxLen) :
    Calls Try.prog 7 #[.int .i64 s, .slice A n c] w fun e w' => e = .returned (.bool true) ∧ Below w.heap.size w w' :=
  orderPlays_any s A n c xs w hL (fun x hx => (hxs x hx).1) (fun x hx => (hxs x hx).2)
end Go.Proofs.Ytegefnidhdicdaa
