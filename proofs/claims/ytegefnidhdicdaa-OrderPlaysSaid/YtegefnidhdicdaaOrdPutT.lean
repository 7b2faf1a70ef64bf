/- 'Put' of the package order, where a message is taken in. -/
import Derived.Test.YtegefnidhdicdaaOrdEnd
namespace Go.Proofs.Ytegefnidhdicdaa
open Go.RowKit
set_option linter.unusedVariables false

set_option maxHeartbeats 4000000 in
theorem put_told (AN AW : Option Addr) (kN cN nW cW s : Nat) (fi ssn pp x : Int) (tx : ByteArray) (next : List Int) (wait : List Msg) (w : World) (hk : kN ≤ 65535) (hs : s < kN) (hn : nW < 1000000)
    (hN : Us w w.heap.size AN kN next) (hW : Ms w w.heap.size AW nW wait) (oW : okA AW nW) (hx : next[s]? = some x) (hl : lateB ssn x = false) (hf : findF s ssn wait = -1) (x0 : 0 ≤ x) (x1 : x ≤ 65535) :
    Calls Try.prog 11 #[.agg #[.slice AN kN cN, .slice AW nW cW], .agg #[.int .u32 fi, .bool false, .int .u16 s, .int .u16 ssn, .int .u32 pp, .string tx]] w
      (PutRet AN AW (0, next.set s (toldF s (wait ++ [Msg.mk fi false s ssn pp tx]).length x (wait ++ [Msg.mk fi false s ssn pp tx])).1, (toldF s (wait ++ [Msg.mk fi false s ssn pp tx]).length x (wait ++ [Msg.mk fi false s ssn pp tx])).2.1,
        (toldF s (wait ++ [Msg.mk fi false s ssn pp tx]).length x (wait ++ [Msg.mk fi false s ssn pp tx])).2.2) w) := by
  have HN := Lib.hid hN
  obtain ⟨b, off, x', rfl, hb, hx', hc⟩ := u16_at hN hs
  obtain rfl : x' = x := by rw [hx] at hx'; injection hx' with h; exact h.symm
  have HL := Lib.hid hl
  have HF := Lib.hid hf
  have HW := Lib.hid hW
  have HX := Lib.hid hx
  have HOW := Lib.hid oW
  clear hl hf hx hx' hN hW oW
  have q1 : (0 : Int) ≤ (s : Int) := by omega
  have q2 : (s : Int) < (kN : Int) := by omega
  obtain ⟨⟨B0, z0⟩, k1, k2, k3⟩ := start3 w 27 38 27 #[.slice (some ⟨b, off, none⟩) kN cN, .slice AW nW cW] #[.int .u32 fi, .bool false, .int .u16 s, .int .u16 ssn, .int .u32 pp, .string tx] #[.slice none 0 0, .slice none 0 0]
  have c0 := (B0.cell (p := ⟨b, off + s, none⟩) hb).trans hc
  obtain ⟨c1, f1⟩ := k1.reads
  obtain ⟨c2, f2⟩ := k2.reads
  have K1 := Lib.hid k1
  have K2 := Lib.hid k2
  have K3 := Lib.hid k3
  have HB := Lib.hid B0
  clear k1 k2 k3 hc B0
  go_enter Try.func11, Try.ntmps11
  go_wp2_with fail
  go_region_held3 (fun w' => w'.cell? ⟨b, off + s, none⟩ = some (.int .u16 x') ∧ (∀ o, w'.cell? ⟨w.heap.size, o, none⟩ = (#[.slice (some ⟨b, off, none⟩) kN cN, .slice AW nW cW] : Array Value)[o]?) ∧ (∀ o, w'.cell? ⟨w.heap.size + 1, o, none⟩ = (#[.int .u32 fi, .bool false, .int .u16 s, .int .u16 ssn, .int .u32 pp, .string tx] : Array Value)[o]?))
    (first | exact ⟨c0, c1, c2⟩ | go_keep | assumption)
    ((first
      | (go_simp; go_at_call 24; refine (late_no _ _ _ HL.out).mono ?_; rintro e w5 ⟨rfl, rfl⟩)
      | (go_simp; go_at_call 25; refine (find_is _ rfl _ _ _ wait _ _ (-1) _ ((HW.out.call (HB.out.drew) (Nat.le_refl _)).more z0) HF.out).mono ?_; rintro e w6 ⟨rfl, hb6⟩
         have S6 : _ ∧ _ ∧ _ := ⟨(hb6.cell (p := ⟨b, off + s, none⟩) (Nat.lt_of_lt_of_le hb z0)).trans c0, fun o => (hb6.cell (p := ⟨w.heap.size, o, none⟩) (by simp; omega)).trans (c1 o), fun o => (hb6.cell (p := ⟨w.heap.size + 1, o, none⟩) (by simp)).trans (c2 o)⟩
         have L1 := K1.out.drew.call hb6
         have L2 := K2.out.drew.call hb6
         have L3 := K3.out.drew.call hb6
         have B6 := bel_call HB.out.drew hb6 z0)))
  have M6 : Mid #[.slice (some ⟨b, off, none⟩) kN cN, .slice AW nW cW] #[.int .u32 fi, .bool false, .int .u16 s, .int .u16 ssn, .int .u32 pp, .string tx] kN nW next wait w undef undef undef undef w6 := ⟨B6, by have := L3.lt; omega, L1, L2, L3, .inl rfl, .inl rfl, .inl rfl, .inl rfl⟩
  clear c0 c1 c2 f1 f2 S6 HB K1 K2 K3 hb6 L1 L2 L3 B6
  rename_i hHd
  clear hHd
  obtain ⟨d1, g1⟩ := M6.box.reads
  obtain ⟨d2, g2⟩ := M6.msg.reads
  have l1 := M6.box.lt
  have l2 := M6.msg.lt
  have z6 := M6.big
  obtain ⟨i0, hi0, hz0, hz1, hz2⟩ := info_parts msg_info
  have hz0' : i0.zero = some (.agg #[.int .u32 0, .bool false, .int .u16 0, .int .u16 0, .int .u32 0, .string ByteArray.empty]) := hz0
  have H0 := Lib.hid hi0
  have H1 := Lib.hid hz0'
  have H2 := Lib.hid hz1
  have H3 := Lib.hid hz2
  clear hi0 hz0 hz0' hz1 hz2
  go_wp2_with fail
  go_region_held3 (fun w' => (∀ o, w'.cell? ⟨w.heap.size, o, none⟩ = (#[.slice (some ⟨b, off, none⟩) kN cN, .slice AW nW cW] : Array Value)[o]?) ∧ (∀ o, w'.cell? ⟨w.heap.size + 1, o, none⟩ = (#[.int .u32 fi, .bool false, .int .u16 s, .int .u16 ssn, .int .u32 pp, .string tx] : Array Value)[o]?))
    (first | exact M6.drew.cells | exact M6.drew.mkG.cells | exact M6.drew.mkQ.cells | exact M6.drew.mkG.mkQ1.cells | exact M6.drew.mkQ.mkG1.cells | exact M7.cells | exact M7.mkG.cells | exact M7.mkQ.cells | exact M7.mkG.mkQ1.cells | exact M7.mkQ.mkG1.cells | exact M8.cells | exact M8.mkG.cells | exact M8.mkQ.cells | exact M8.mkG.mkQ1.cells | exact M8.mkQ.mkG1.cells | exact M9.cells | exact M9.mkQ.cells | exact M9.stored.1.cells | exact (M9.call (below_new _ _)).cells)
    ((first
      | (go_simp; go_at_call 26
         first
           | (have MX := M6.drew; refine (cloneU_any _ kN cN next _ ((HN.out.call MX.below (Nat.le_refl _)).more (Nat.le_trans (by omega) MX.big)) (by omega) (.inl rfl) (fun x e => by injection e with e; rw [← e])).mono ?_; rintro e w7 ⟨A7, c7, rfl, O7, b7⟩; have M7 := MX.mkA b7 O7; clear MX O7 b7)
           | (have MX := M6.drew.mkG; refine (cloneU_any _ kN cN next _ ((HN.out.call MX.below (Nat.le_refl _)).more (Nat.le_trans (by omega) MX.big)) (by omega) (.inl rfl) (fun x e => by injection e with e; rw [← e])).mono ?_; rintro e w7 ⟨A7, c7, rfl, O7, b7⟩; have M7 := MX.mkA b7 O7; clear MX O7 b7)
           | (have MX := M6.drew.mkQ; refine (cloneU_any _ kN cN next _ ((HN.out.call MX.below (Nat.le_refl _)).more (Nat.le_trans (by omega) MX.big)) (by omega) (.inl rfl) (fun x e => by injection e with e; rw [← e])).mono ?_; rintro e w7 ⟨A7, c7, rfl, O7, b7⟩; have M7 := MX.mkA b7 O7; clear MX O7 b7)
           | (have MX := M6.drew.mkG.mkQ1; refine (cloneU_any _ kN cN next _ ((HN.out.call MX.below (Nat.le_refl _)).more (Nat.le_trans (by omega) MX.big)) (by omega) (.inl rfl) (fun x e => by injection e with e; rw [← e])).mono ?_; rintro e w7 ⟨A7, c7, rfl, O7, b7⟩; have M7 := MX.mkA b7 O7; clear MX O7 b7)
           | (have MX := M6.drew.mkQ.mkG1; refine (cloneU_any _ kN cN next _ ((HN.out.call MX.below (Nat.le_refl _)).more (Nat.le_trans (by omega) MX.big)) (by omega) (.inl rfl) (fun x e => by injection e with e; rw [← e])).mono ?_; rintro e w7 ⟨A7, c7, rfl, O7, b7⟩; have M7 := MX.mkA b7 O7; clear MX O7 b7))
      | (go_simp; go_at_call 27
         first
           | (have MX := M7; refine (cloneM_any _ nW cW wait _ ((HW.out.call MX.below (Nat.le_refl _)).more (Nat.le_trans (by omega) MX.big)) (by omega) HOW.out.1 HOW.out.2).mono ?_; rintro e w8 ⟨A8, c8, rfl, O8, b8⟩; have M8 := MX.mkB b8 O8; clear MX O8 b8)
           | (have MX := M7.mkG; refine (cloneM_any _ nW cW wait _ ((HW.out.call MX.below (Nat.le_refl _)).more (Nat.le_trans (by omega) MX.big)) (by omega) HOW.out.1 HOW.out.2).mono ?_; rintro e w8 ⟨A8, c8, rfl, O8, b8⟩; have M8 := MX.mkB b8 O8; clear MX O8 b8)
           | (have MX := M7.mkQ; refine (cloneM_any _ nW cW wait _ ((HW.out.call MX.below (Nat.le_refl _)).more (Nat.le_trans (by omega) MX.big)) (by omega) HOW.out.1 HOW.out.2).mono ?_; rintro e w8 ⟨A8, c8, rfl, O8, b8⟩; have M8 := MX.mkB b8 O8; clear MX O8 b8)
           | (have MX := M7.mkG.mkQ1; refine (cloneM_any _ nW cW wait _ ((HW.out.call MX.below (Nat.le_refl _)).more (Nat.le_trans (by omega) MX.big)) (by omega) HOW.out.1 HOW.out.2).mono ?_; rintro e w8 ⟨A8, c8, rfl, O8, b8⟩; have M8 := MX.mkB b8 O8; clear MX O8 b8)
           | (have MX := M7.mkQ.mkG1; refine (cloneM_any _ nW cW wait _ ((HW.out.call MX.below (Nat.le_refl _)).more (Nat.le_trans (by omega) MX.big)) (by omega) HOW.out.1 HOW.out.2).mono ?_; rintro e w8 ⟨A8, c8, rfl, O8, b8⟩; have M8 := MX.mkB b8 O8; clear MX O8 b8))
      | (have MX := M8; refine step_append_lies _ (by rfl) (.tmp 50) (.tmp 52) 25 rfl (w.heap.size + 3) 38 i0 _ 6 32 Try.underlying25 H0.out H1.out H2.out H3.out rfl (by omega) (.slice A8 nW c8) nW (flat Msg.cs wait) (by rfl) MX.ownB ⟨_, 0, none⟩ 1 1 (Msg.mk fi false s ssn pp tx).cs (by rfl) rfl MX.news (Msg.mk fi false s ssn pp tx).cs_one (by omega) (by simp only [maxLen]; omega) (by omega) MX.big _ rfl ?_; intro g9 cap9 w9 hown9 hgrow9 hor9 hlt9; have M9 := MX.app rfl hgrow9; (try dsimp only [World.drew] at M9); clear MX hgrow9 hor9 hlt9; first | (obtain ⟨lq, qW⟩ := M9.readQ; obtain ⟨cq, fq⟩ := qW.reads; clear lq qW; try dsimp only [World.drew] at cq fq) | skip)
           | (have MX := M8.mkG; refine step_append_lies _ (by rfl) (.tmp 50) (.tmp 52) 25 rfl (w.heap.size + 3) 38 i0 _ 6 32 Try.underlying25 H0.out H1.out H2.out H3.out rfl (by omega) (.slice A8 nW c8) nW (flat Msg.cs wait) (by rfl) MX.ownB ⟨_, 0, none⟩ 1 1 (Msg.mk fi false s ssn pp tx).cs (by rfl) rfl MX.news (Msg.mk fi false s ssn pp tx).cs_one (by omega) (by simp only [maxLen]; omega) (by omega) MX.big _ rfl ?_; intro g9 cap9 w9 hown9 hgrow9 hor9 hlt9; have M9 := MX.app rfl hgrow9; (try dsimp only [World.drew] at M9); clear MX hgrow9 hor9 hlt9; first | (obtain ⟨lq, qW⟩ := M9.readQ; obtain ⟨cq, fq⟩ := qW.reads; clear lq qW; try dsimp only [World.drew] at cq fq) | skip)
           | (have MX := M8.mkQ; refine step_append_lies _ (by rfl) (.tmp 50) (.tmp 52) 25 rfl (w.heap.size + 3) 38 i0 _ 6 32 Try.underlying25 H0.out H1.out H2.out H3.out rfl (by omega) (.slice A8 nW c8) nW (flat Msg.cs wait) (by rfl) MX.ownB ⟨_, 0, none⟩ 1 1 (Msg.mk fi false s ssn pp tx).cs (by rfl) rfl MX.news (Msg.mk fi false s ssn pp tx).cs_one (by omega) (by simp only [maxLen]; omega) (by omega) MX.big _ rfl ?_; intro g9 cap9 w9 hown9 hgrow9 hor9 hlt9; have M9 := MX.app rfl hgrow9; (try dsimp only [World.drew] at M9); clear MX hgrow9 hor9 hlt9; first | (obtain ⟨lq, qW⟩ := M9.readQ; obtain ⟨cq, fq⟩ := qW.reads; clear lq qW; try dsimp only [World.drew] at cq fq) | skip)
           | (have MX := M8.mkG.mkQ1; refine step_append_lies _ (by rfl) (.tmp 50) (.tmp 52) 25 rfl (w.heap.size + 3) 38 i0 _ 6 32 Try.underlying25 H0.out H1.out H2.out H3.out rfl (by omega) (.slice A8 nW c8) nW (flat Msg.cs wait) (by rfl) MX.ownB ⟨_, 0, none⟩ 1 1 (Msg.mk fi false s ssn pp tx).cs (by rfl) rfl MX.news (Msg.mk fi false s ssn pp tx).cs_one (by omega) (by simp only [maxLen]; omega) (by omega) MX.big _ rfl ?_; intro g9 cap9 w9 hown9 hgrow9 hor9 hlt9; have M9 := MX.app rfl hgrow9; (try dsimp only [World.drew] at M9); clear MX hgrow9 hor9 hlt9; first | (obtain ⟨lq, qW⟩ := M9.readQ; obtain ⟨cq, fq⟩ := qW.reads; clear lq qW; try dsimp only [World.drew] at cq fq) | skip)
           | (have MX := M8.mkQ.mkG1; refine step_append_lies _ (by rfl) (.tmp 50) (.tmp 52) 25 rfl (w.heap.size + 3) 38 i0 _ 6 32 Try.underlying25 H0.out H1.out H2.out H3.out rfl (by omega) (.slice A8 nW c8) nW (flat Msg.cs wait) (by rfl) MX.ownB ⟨_, 0, none⟩ 1 1 (Msg.mk fi false s ssn pp tx).cs (by rfl) rfl MX.news (Msg.mk fi false s ssn pp tx).cs_one (by omega) (by simp only [maxLen]; omega) (by omega) MX.big _ rfl ?_; intro g9 cap9 w9 hown9 hgrow9 hor9 hlt9; have M9 := MX.app rfl hgrow9; (try dsimp only [World.drew] at M9); clear MX hgrow9 hor9 hlt9; first | (obtain ⟨lq, qW⟩ := M9.readQ; obtain ⟨cq, fq⟩ := qW.reads; clear lq qW; try dsimp only [World.drew] at cq fq) | skip)))
  all_goals (
    first
    | (obtain ⟨MZ, QW⟩ := M9.stored (x := .slice A7 kN c7) (y := .slice (some ⟨g9, 0, none⟩) (nW + 1) cap9)
       have nq := own_whole hown9 M9.readQ.2 (by decide)
       have HO := own_far (p := ⟨_, 1, none⟩) (own_far (p := ⟨_, 0, none⟩) hown9 nq (.slice A7 kN c7)) nq (.slice (some ⟨g9, 0, none⟩) (nW + 1) cap9)
       clear nq)
    | (have MZ := M9.call (below_new _ (.cells #[.slice A7 kN c7, .slice (some ⟨g9, 0, none⟩) (nW + 1) cap9] 27))
       have QW := Whole.new w9 27 #[.slice A7 kN c7, .slice (some ⟨g9, 0, none⟩) (nW + 1) cap9]
       have HO := hown9.alloc (.cells #[.slice A7 kN c7, .slice (some ⟨g9, 0, none⟩) (nW + 1) cap9] 27))
    clear M9 hown9
    obtain ⟨_, HA⟩ := MZ.ownA
    obtain ⟨gN, capN, hvN, _, _⟩ := HA.form (by omega)
    simp only [Value.slice.injEq, true_and] at hvN
    obtain ⟨rfl, hc7⟩ := hvN
    clear hc7
    rw [← flat_snoc] at HO
    obtain ⟨cQ, fQ⟩ := QW.reads
    obtain ⟨cM, fM⟩ := MZ.msg.reads
    obtain ⟨cR, fR⟩ := MZ.res.reads
    have lQ := QW.lt
    have lM := MZ.msg.lt
    have lR := MZ.res.lt
    have lW := HW.out.len
    go_wp2_with fail
    refine (told_any (w.heap.size + 3) gN kN _ (nW + 1) cap9 s (some ⟨g9, 0, none⟩) next (wait ++ [Msg.mk fi false s ssn pp tx]) x' _ MZ.big hs hk HA HX.out x0 x1 HO (by simp [lW]) (by omega)).mono ?_
    rintro e w10 ⟨Az, cz, Lz, clz, rfl, ON, OW, OL, b10⟩
    have MZz := MZ.below.size
    have R10 := MZ.res.below b10 (by omega)
    have B10 : Below w.heap.size w w10 := MZ.below.trans (b10.mono (by omega))
    have hTl := toldF_len s (wait ++ [Msg.mk fi false s ssn pp tx]).length x' (wait ++ [Msg.mk fi false s ssn pp tx])
    rw [List.length_append, lW, List.length_singleton] at hTl
    rw [List.length_append, lW, List.length_singleton] at ON OW OL
    rw [List.length_append, lW, List.length_singleton]
    clear MZ QW HO HA cQ fQ cM fM cR fR lQ lM lR b10
    obtain ⟨T, hT⟩ : ∃ T, toldF s (nW + 1) x' (wait ++ [Msg.mk fi false s ssn pp tx]) = T := ⟨_, rfl⟩
    rw [hT] at ON OW OL hTl
    rw [hT]
    obtain ⟨cR, fR⟩ := R10.reads
    have lR := R10.lt
    go_wp2
    have R11 := (R10.two (.slice (some ⟨gN, 0, none⟩) kN c7) (.slice Az T.2.1.length cz)).alloc (.cells #[.slice (some ⟨gN, 0, none⟩) kN c7, .slice Az T.2.1.length cz] 27)
    clear cR fR
    obtain ⟨cR, fR⟩ := R11.reads
    rw [List.length_append, lW, List.length_singleton, hT]
    exact bodyPost_ret (v := .tuple #[.agg #[.slice (some ⟨gN, 0, none⟩) kN c7, .slice Az T.2.1.length cz], .slice Lz T.2.2.length clz, .int .i64 0]) (by simp [results, Try.results11, go_sem, cR]) rfl
      (put_end _ AW _ _ gN kN c7 Az Lz cz clz _ _ _ _ _ _ _ w w10 hk (by omega) MZz (by omega) (by omega) R10 ON OW OL B10))
end Go.Proofs.Ytegefnidhdicdaa
