/- 'told' of the package order: what waits of a stream is taken out, one by one. -/
import Derived.Test.YtegefnidhdicdaaOrd
import Derived.Test.YtegefnidhdicdaaOrdFn
import Derived.StillTailTactics
namespace Go.Proofs.Ytegefnidhdicdaa
open Go.RowKit
set_option linter.unusedVariables false

/-- What 'told' hands back. -/
def ToldRet (base B gN kN cN : Nat) (next : List Int) (s : Nat) (r : Int × List Msg × List Msg) (w : World) (e : Ending) (w' : World) : Prop :=
  ∃ A c L cl, e = .returned (.tuple #[.agg #[.slice (some ⟨gN, 0, none⟩) kN cN, .slice A r.2.1.length c], .slice L r.2.2.length cl]) ∧
    w'.ownsRow base 31 1 (.slice (some ⟨gN, 0, none⟩) kN cN) kN (flat u16c (next.set s r.1)) ∧
    w'.ownsRow base 38 6 (.slice A r.2.1.length c) r.2.1.length (flat Msg.cs r.2.1) ∧
    w'.ownsRow B 38 6 (.slice L r.2.2.length cl) r.2.2.length (flat Msg.cs r.2.2) ∧ Below base w w'

/-- What holds at the head of each round, when at most g rounds are to come. -/
def ToldAt (base B gN kN cN nW : Nat) (next : List Int) (s : Nat) (r : Int × List Msg × List Msg) (w : World) (g : Nat) (vl : Value) (wr : World) : Prop :=
  ∃ (ms : List Msg) (x : Int) (l : List Msg) (A : Option Addr) (c : Nat) (L : Option Addr) (cl : Nat), vl = .slice L l.length cl ∧ g = ms.length ∧ 0 ≤ x ∧ x ≤ 65535 ∧ l.length + ms.length ≤ nW ∧ Below base w wr ∧
    Whole wr B 27 #[.slice (some ⟨gN, 0, none⟩) kN cN, .slice A ms.length c] ∧ Whole wr (B + 1) 27 #[.slice none 0 0, .slice none 0 0] ∧
    wr.ownsRow base 31 1 (.slice (some ⟨gN, 0, none⟩) kN cN) kN (flat u16c (next.set s x)) ∧
    wr.ownsRow base 38 6 (.slice A ms.length c) ms.length (flat Msg.cs ms) ∧ (∀ a, A = some a → a.block < B) ∧
    wr.ownsRow (B + 2) 38 6 (.slice L l.length cl) l.length (flat Msg.cs l) ∧
    r = ((toldF s ms.length x ms).1, (toldF s ms.length x ms).2.1, l ++ (toldF s ms.length x ms).2.2)

set_option maxHeartbeats 2000000 in
theorem told_any (base gN kN cN nW cW s : Nat) (AW : Option Addr) (next : List Int) (ms : List Msg) (x : Int) (w : World) (hb : base ≤ w.heap.size) (hs : s < kN) (hk : kN ≤ 65535)
    (hN : w.ownsRow base 31 1 (.slice (some ⟨gN, 0, none⟩) kN cN) kN (flat u16c next)) (hx : next[s]? = some x) (hx0 : 0 ≤ x) (hx1 : x ≤ 65535)
    (hW : w.ownsRow base 38 6 (.slice AW nW cW) nW (flat Msg.cs ms)) (hl : ms.length = nW) (hn : nW ≤ 1000000) :
    Calls Try.prog 28 #[.agg #[.slice (some ⟨gN, 0, none⟩) kN cN, .slice AW nW cW], .int .u16 s] w
      (ToldRet base w.heap.size gN kN cN next s (toldF s ms.length x ms) w) := by
  have hst : ToldAt base w.heap.size gN kN cN nW next s (toldF s ms.length x ms) w ms.length (.slice none 0 0)
      ((w.alloc (.cells #[.slice (some ⟨gN, 0, none⟩) kN cN, .slice AW nW cW] 27)).alloc (.cells #[.slice none 0 0, .slice none 0 0] 27)) := by
    subst hl
    have hset : next.set s x = next := by
      obtain ⟨h1, h2⟩ := List.getElem?_eq_some_iff.1 hx
      rw [← h2]; exact List.set_getElem_self h1
    have t2 := Whole.new (w.alloc (.cells #[.slice (some ⟨gN, 0, none⟩) kN cN, .slice AW ms.length cW] 27)) 27 #[.slice none 0 0, .slice none 0 0]
    rw [World.size_alloc] at t2
    refine ⟨ms, x, [], AW, cW, none, 0, rfl, rfl, hx0, hx1, by simp, ((Below.refl _ _).alloc hb _).alloc (by simp; omega) _, (Whole.new w _ _).alloc _, t2, ?_, (hW.alloc _).alloc _, ?_, World.ownsRow_nil _ _ _ _, by simp⟩
    · rw [hset]; exact (hN.alloc _).alloc _
    · rintro a rfl
      exact (hW.lt a.block rfl).2
  generalize hR : toldF s ms.length x ms = R at *
  clear hN hW hR hx hl
  have HST := Lib.hid hst
  clear hst
  go_enter Try.func28, Try.ntmps28
  go_wp2_with fail
  go_step3
  go_wp2_with fail
  go_step3
  go_wp2_with fail
  go_loopg [6] ms.length (fun g vl wr => ToldAt base w.heap.size gN kN cN nW next s R w g vl wr)
  case atStart => exact HST.out
  case round =>
    clear HST
    obtain ⟨ms', x', l, A, c, L, cl, rfl, rfl, y0, y1, hlen, bw, tB, tR, hN, hW, hA, hL, hR⟩ := hrel
    have HR := Lib.hid hR
    have HA := Lib.hid hA
    clear hR hA
    have zB := tB.lt
    have zR := tR.lt
    obtain ⟨cB, fB⟩ := tB.reads
    have cN' : wr.cell? ⟨gN, s, none⟩ = some (.int .u16 x') := by
      have h1 := hN.cellAt s (by omega)
      rw [h1, flat_getU, List.getElem?_set_self (by have := hN.1; rw [flat_len u16c_len] at this; simp at this; omega)]
      rfl
    have q1 : (0 : Int) ≤ (s : Int) := by omega
    have q2 : (s : Int) < (kN : Int) := by omega
    go_wp2_with fail
    go_still_tail 7, (by kernel_rfl)
    change wpList _ _ _ _ _ wr.drew
    obtain ⟨wd, hwd⟩ : ∃ wd, wr.drew = wd := ⟨_, rfl⟩
    have bd : Below base w wd := by rw [← hwd]; exact bw.drew
    have tB1 : Whole wd _ _ _ := hwd ▸ tB.drew
    have tR1 : Whole wd _ _ _ := hwd ▸ tR.drew
    have hN1 : wd.ownsRow _ _ _ _ _ _ := hwd ▸ own_drew hN
    have hW1 : wd.ownsRow _ _ _ _ _ _ := hwd ▸ own_drew hW
    have hL1 : wd.ownsRow _ _ _ _ _ _ := hwd ▸ own_drew hL
    rw [hwd]
    have zd : base ≤ wd.heap.size := Nat.le_trans hb bd.size
    clear hwd tB tR hN hW hL cB fB cN' bw zB zR
    have hM := Lst.of_own Msg.cs_len (by omega) hW1 (by simp only [maxLen]; omega)
    go_wp2_with fail
    refine (find_any _ rfl _ _ _ _ _ _ _ hM).mono ?_
    rintro e w1 ⟨rfl, hb1⟩
    have b1 : Below base w w1 := bel_call bd hb1 zd
    have tB2 := tB1.call hb1
    have tR2 := tR1.call hb1
    have hN2 := own_call hN1 hb1
    have hW2 := own_call hW1 hb1
    have hL2 := own_call hL1 hb1
    have zB := tB2.lt
    have zR := tR2.lt
    have z1 : base ≤ w1.heap.size := Nat.le_trans hb b1.size
    have z2 := b1.size
    clear hM hb1 tB1 tR1 hN1 hW1 hL1 bd zd
    obtain ⟨cB, fB⟩ := tB2.reads
    obtain ⟨cR, fR⟩ := tR2.reads
    by_cases hex : ms'.findIdx (fun m => m.stream == (s : Int) && m.ssn == x') < ms'.length
    · obtain ⟨i, hi⟩ : ∃ i, ms'.findIdx (fun m => m.stream == (s : Int) && m.ssn == x') = i := ⟨_, rfl⟩
      rw [hi] at hex
      have hf : findF s x' ms' = (i : Int) := by unfold findF idx; rw [hi, if_pos hex]
      have hM := Lst.of_own Msg.cs_len (by omega) hW2 (by simp only [maxLen]; omega)
      obtain ⟨b, off, m, rfl, hbl, hm, d0, d1, d2, d3, d4, d5⟩ := msg_at hM hex
      have hform := hW2.form (by omega)
      obtain ⟨g, cap, hv, hg, _⟩ := hform
      simp only [Value.slice.injEq, Option.some.injEq, Addr.mk.injEq, and_true, true_and] at hv
      obtain ⟨⟨rfl, rfl⟩, rfl⟩ := hv
      have hT := toldF_some (f := ms'.length - 1) hi hm
      rw [show ms'.length - 1 + 1 = ms'.length from by omega] at hT
      have HT := Lib.hid hT
      have HM := Lib.hid hm
      have HI := Lib.hid hi
      have HB := HA.out _ rfl
      rw [hf]
      clear hT hm hi hM hf
      obtain ⟨i0, hi0, hz0, hz1, hz2⟩ := info_parts msg_info
      have hz0' : i0.zero = some (.agg #[.int .u32 0, .bool false, .int .u16 0, .int .u16 0, .int .u32 0, .string ByteArray.empty]) := hz0
      have H0 := Lib.hid hi0
      have H1 := Lib.hid hz0'
      have H2 := Lib.hid hz1
      have H3 := Lib.hid hz2
      clear hi0 hz0 hz0' hz1 hz2
      have q3 : (i : Int) < (ms'.length : Int) := by omega
      simp only [Nat.zero_add] at d0 d1 d2 d3 d4 d5
      have nLb : ∀ k, (Value.slice L l.length cl).ownBlock = some k → w.heap.size + 2 ≤ k ∧ k < w1.heap.size := hL2.lt
      have eNL := own_ne hN2 hL2 (by decide)
      have eNB := own_whole hN2 tB2 (by decide)
      have HNL := Lib.hid nLb
      have HEN := Lib.hid eNL
      have HEB := Lib.hid eNB
      clear nLb eNL eNB
      go_wp2_with (at_builtin; go_must (
                   refine wpList_append_own _ rfl (.tmp 18) (.tmp 24) 25 rfl (w.heap.size + 2) 38 i0 _ 6 32 Try.underlying25 H0.out H1.out H2.out H3.out rfl (by omega) (.slice L l.length cl) l.length (flat Msg.cs l) rfl (hL2.alloc _) ⟨w1.heap.size, 0, none⟩ 1 1 m.cs rfl rfl (World.news_of_block (heap_alloc_new w1 _)) m.cs_one (by simp only [maxLen]; omega) (by omega) (by simp; omega) ?_
                   intro v2 w2 hown2 hgrow2 hnil2
                   have b2 : Below base w w2 := below_grown (b1.alloc z1 _) hgrow2 (by simp; omega) (fun k hk => by have := (HNL.out k hk).1; omega)
                   have tB3 := (tB2.alloc (.cells #[.int .u32 m.first, .bool m.free, .int .u16 m.stream, .int .u16 m.ssn, .int .u32 m.ppid, .string m.text] 38)).grown hgrow2 (fun e => by have := (HNL.out _ e.symm).1; omega)
                   have tR3 := (tR2.alloc (.cells #[.int .u32 m.first, .bool m.free, .int .u16 m.stream, .int .u16 m.ssn, .int .u32 m.ppid, .string m.text] 38)).grown hgrow2 (fun e => by have := (HNL.out _ e.symm).1; omega)
                   have hN3 := (hN2.alloc (.cells #[.int .u32 m.first, .bool m.free, .int .u16 m.stream, .int .u16 m.ssn, .int .u32 m.ppid, .string m.text] 38)).kept hgrow2 HEN.out
                   have hW3 := (hW2.alloc (.cells #[.int .u32 m.first, .bool m.free, .int .u16 m.stream, .int .u16 m.ssn, .int .u32 m.ppid, .string m.text] 38)).kept hgrow2 (.inr (fun e => by have := (HNL.out b e.symm).1; omega))
                   have zB3 := tB3.lt
                   have zR3 := tR3.lt
                   have z3 : base ≤ w2.heap.size := Nat.le_trans hb b2.size
                   clear hgrow2 hnil2 tB2 tR2 hN2 hW2 hL2 cB fB cR fR d0 d1 d2 d3 d4 d5 b1
                   obtain ⟨cB, fB⟩ := tB3.reads))
      clear cB fB
      have eLB : ∀ k, v2.ownBlock = some k → w.heap.size + 2 ≤ k := fun k hk => (hown2.lt k hk).1
      have eNb := own_apart hN3 hW3 (by decide) (g := b) rfl
      have eNx := own_whole hN3 tB3 (by decide)
      have eNy := own_whole hN3 tR3 (by decide)
      refine (delete_len base b _ c i ms' w2 hW3 hex).mono ?_
      rintro e w3 ⟨rfl, hW4, hgrow3⟩
      have b3 : Below base w w3 := below_grown b2 hgrow3 z3 (fun k hk => by injection hk with hk; omega)
      have tB4 := tB3.grown hgrow3 (fun e => by injection e with e; omega)
      have tR4 := tR3.grown hgrow3 (fun e => by injection e with e; omega)
      have hN4 := hN3.kept hgrow3 (.inr eNb)
      have hL4 := hown2.kept hgrow3 (.inr (fun e => by have := eLB b e; omega))
      have zB4 := tB4.lt
      have zR4 := tR4.lt
      have z4 : base ≤ w3.heap.size := Nat.le_trans hb b3.size
      have cN4 : w3.cell? ⟨gN, s, none⟩ = some (.int .u16 x') := by
        have h1 := hN4.cellAt s (by omega)
        rw [h1, flat_getU, List.getElem?_set_self (by have := hN4.1; rw [flat_len u16c_len] at this; simp at this; omega)]
        rfl
      have fN4 := hN4.frozenAt s
      have lN4 := World.block_lt_of_cell? w3 _ cN4
      have gneB : ¬ gN = w.heap.size := fun e => eNx (by rw [← e]; rfl)
      have gneB' : ¬ w.heap.size = gN := fun e => gneB e.symm
      have HEY := Lib.hid eNy
      have HEX := Lib.hid eNx
      have HLB := Lib.hid eLB
      have HEb := Lib.hid eNb
      clear tB3 tR3 hN3 hW3 hown2 hgrow3 b2 zB3 zR3 z3 eLB eNb eNx eNy
      obtain ⟨cB, fB⟩ := tB4.reads
      go_wp2
      go_roundg (ms'.length - 1)
      case measure => omega
      case rel =>
        have hle : (ms'.eraseIdx i).length = ms'.length - 1 := by rw [List.length_eraseIdx, if_pos hex]
        have eLN := own_apart hL4 hN4 (by decide) (g := gN) rfl
        have eWB := own_whole hW4 tB4 (by decide)
        have eWN := own_apart hW4 hN4 (by decide) (g := gN) rfl
        obtain ⟨A2, c2, rfl⟩ := own_shape hL4
        rw [← hle] at hW4
        have hN5 := ((own_far hN4 HEX.out (p := ⟨w.heap.size, 1, none⟩) (.slice (some ⟨b, 0, none⟩) (ms'.length - 1) c)).stored s (.int .u16 (IntKind.u16.wrap (x' + 1)))).1
        rw [← flat_setU, List.set_set, IntKind.wrap_u16] at hN5
        have tB5 := (tB4.here 1 (.slice (some ⟨b, 0, none⟩) (ms'.length - 1) c)).far (p := ⟨gN, s, none⟩) gneB' (.int .u16 (IntKind.u16.wrap (x' + 1)))
        have tR5 := (tR4.far (p := ⟨w.heap.size, 1, none⟩) (by simp) (.slice (some ⟨b, 0, none⟩) (ms'.length - 1) c)).far (p := ⟨gN, s, none⟩) (fun e => HEY.out (by rw [show w.heap.size + 1 = gN from e]; rfl)) (.int .u16 (IntKind.u16.wrap (x' + 1)))
        refine ⟨ms'.eraseIdx i, (x' + 1) % 65536, l ++ [m], some ⟨b, 0, none⟩, c, A2, c2, by simp, hle.symm, by omega, by omega, by rw [hle, List.length_append]; simp; omega, ?_, ?_, ?_, ?_, ?_, fun a ha => ?_, ?_, ?_⟩
        · exact (b3.setCell (p := ⟨w.heap.size, 1, none⟩) hb _).setCell (p := ⟨gN, s, none⟩) ((hN4.lt gN rfl).1) _
        · rw [hle]
          simpa using tB5
        · exact tR5
        · rw [IntKind.wrap_u16]; exact hN5
        · exact own_far (own_far hW4 (by rw [hle]; exact eWB) _) (by rw [hle]; exact eWN) _
        · injection ha with ha; subst ha; exact HB
        · rw [List.length_append, List.length_singleton, flat_append]
          rw [show flat Msg.cs [m] = m.cs from by simp [flat]]
          exact own_far (own_far hL4 (fun e => by have := HLB.out _ e; simp at this; omega) _) eLN _
        · rw [HR.out, HT.out, hle]; simp
    · have hf : findF s x' ms' = -1 := by unfold findF idx; rw [if_neg hex]
      have hno : ∀ j (h : j < ms'.length), (ms'[j].stream == (s : Int) && ms'[j].ssn == x') = false := fun j h => by
        have h1 : j < ms'.findIdx (fun m => m.stream == (s : Int) && m.ssn == x') := by omega
        have h2 := List.not_of_lt_findIdx h1
        simpa using h2
      have hE := toldF_none (f := ms'.length) hno
      have HE := Lib.hid hE
      rw [hf]
      clear hE hno hex hf
      go_wp2
      rw [Exit.noGoto_ret]
      refine bodyPost_ret (v := .tuple #[.agg #[.slice (some ⟨gN, 0, none⟩) kN cN, .slice A ms'.length c], .slice L l.length cl]) (by simp [results, Try.results28, go_sem, cR]) rfl ?_
      have hR' : R = (x', ms', l) := by rw [HR.out, HE.out]; simp
      rw [hR']
      have n1 := own_whole hN2 tR2 (by decide)
      have n2 := own_whole hW2 tR2 (by decide)
      have n3 := own_whole hL2 tR2 (by decide)
      exact ⟨A, c, L, cl, rfl, own_far (own_far hN2 n1 _) n1 _, own_far (own_far hW2 n2 _) n2 _, own_far (own_far (own_base hL2 (by omega)) n3 _) n3 _, by (repeat (first | with_reducible exact Below.refl _ _ | with_reducible assumption | with_reducible refine below_drewN ?_ _ | with_reducible refine Below.drew ?_ | with_reducible refine Below.alloc ?_ ?_ _ | with_reducible refine Below.setCell ?_ ?_ _ | with_reducible refine bel_call ?_ (by with_reducible assumption) ?_ | (show (_ : Nat) ≤ _; first | omega | (simp <;> omega))))⟩
end Go.Proofs.Ytegefnidhdicdaa
