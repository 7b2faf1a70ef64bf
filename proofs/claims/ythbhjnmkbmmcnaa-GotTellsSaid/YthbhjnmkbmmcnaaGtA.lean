/- The chunk that tells what came: it is right. -/
import Derived.Test.YthbhjnmkbmmcnaaGtW
namespace Go.Proofs.Ythbhjnmkbmmcnaa
open Go.RowKit Go.IntWalk Go.Lib
set_option linter.unusedVariables false
set_option linter.unusedSimpArgs false
set_option linter.unusedSectionVars false
set_option maxRecDepth 100000

theorem bc_set (L : List UInt8) (i : Nat) (y : UInt8) : (flat bc L).set i (bv y) = flat bc (L.set i y) := by rw [flat_bc, flat_bc, List.map_set]
theorem Sat.lone3 {w0 : World} {D : Nat → Prop} {H : List Item} {w : World} {r v u : Item} {i j k : Nat} (hw : Sat w0 D H w) (hp : Pick [i, j, k] H [r, v, u]) (hv : v.mine = false) (hu : u.mine = false) : Sat w (Bs [r]) [r, v, u] w :=
  ⟨Ext.refl, (hw.pick hp).holds, (fun it hit hm b hb => by
    simp only [List.mem_cons, List.not_mem_nil, or_false] at hit
    rcases hit with rfl | rfl | rfl
    · exact .inr ⟨_, List.mem_singleton.2 rfl, hb⟩
    · rw [hv] at hm; cases hm
    · rw [hu] at hm; cases hm), (hw.pick hp).apart⟩
set_option maxHeartbeats 4000000 in
theorem csame_q (cc win : Int) (Ag : Option Addr) (q kg : Nat) (Ad : Option Addr) (m kd : Nat) (gs : List (Int × Int)) (ds : List Int) (w : World) (hG : Lst (pc .u16) 2 w w.heap.size Ag q gs) (hD : Lst (ic .u32) 1 w w.heap.size Ad m ds) (hq : q ≤ 100) (hm : m ≤ 100) :
    Calls Try.prog 46 #[.agg (sackC cc win Ag q kg Ad m kd).toArray, .agg (sackC cc win Ag q kg Ad m kd).toArray] w fun e w' => e = .returned (.bool true) ∧ Below w.heap.size w w' := by
  have h1 : (cc == cc) = true := beqT rfl
  have h2 : (win == win) = true := beqT rfl
  refine enterW (fun _ => False) _ Try.func46 rfl (by simp only [Try.ntmps46, List.length_cons, List.length_nil, Nat.reduceAdd, Nat.reduceSub]; rfl) ?_
  refine WC.addVw (ic_len .u32) hD ?_
  refine WC.addVw (pc_len .u16) hG ?_
  repeat' (first
    | refine goS ?_
    | ((with_reducible refine WL.isN_bin ?_); first | refine WL.yld rfl (Yld.as (Yld.eqS (s := []) (t := []) rfl rfl rfl) (show Value.bool (([] : List UInt8) == []) = .bool true from rfl)) ?_ | refine WL.yld rfl binQ ?_)
    | ((with_reducible refine WL.isN_load ?_); first | refine WL.yld rfl loadQ ?_)
    | ((with_reducible refine WL.isN_call ?_); first | refine WL.step rfl (StepTo.callV (v := .bool true) (us := [.slice Ag q kg, .slice Ag q kg]) rfl rfl rfl rfl rfl (by kernel_rfl) (fun w hw => equal16_q Ag q kg gs w (hw.lst 2 (pc_len .u16) (by omega) rfl) hq) ?_) | refine WL.step rfl (StepTo.callV (v := .bool true) (us := [.slice Ad m kd, .slice Ad m kd]) rfl rfl rfl rfl rfl (by kernel_rfl) (fun w hw => equal32_q Ad m kd ds w (hw.lst 3 (ic_len .u32) (by omega) rfl) hm) ?_) | refine WL.step rfl (StepTo.callV (v := .bool true) (us := [.slice none 0 0, .slice none 0 0]) rfl rfl rfl rfl rfl (by kernel_rfl) (fun w hw => equalnil_q w) ?_))
    | ((with_reducible refine WL.isN_box ?_); first | refine WL.step rfl (StepTo.boxA rfl rfl rfl rfl (fun _ => ?_)) | refine WL.step rfl (StepTo.box1 rfl rfl rfl rfl rfl (fun _ => ?_)))
    | with_reducible refine WC.block ?_
    | (refine WC.cond rfl (fun hc => ?_) (fun hc => ?_) <;> (try first | (with_reducible replace hc := of_decide_eq_true hc) | (with_reducible replace hc := of_decide_eq_false hc) | (with_reducible replace hc := eqT hc) | (with_reducible replace hc := eqF hc) | (with_reducible replace hc := neT hc) | (with_reducible replace hc := neF hc) | (with_reducible replace hc := noT hc) | (with_reducible replace hc := noF hc)) <;> (try (exfalso; omega))))
  exact WQ.body (Reads.tmp rfl rfl) fun w' hw' => ⟨rfl, hw'.ext.below⟩
/-- What 'Build' yields of it. -/
def BuildR (v : Value) (N : List Item) : Prop := ∃ L : List UInt8, v = .tuple #[.string (bs L), .int .i64 0] ∧ N = []
set_option maxHeartbeats 4000000 in
theorem build_w (cc win : Int) (Ag : Option Addr) (q kg : Nat) (Ad : Option Addr) (m kd : Nat) (l : List (Nat × Nat)) (ds : List Int) (hr : Rising l) (w : World) (hG : Lst (pc .u16) 2 w w.heap.size Ag q (l.map fun p => ((p.1 : Int), (p.2 : Int)))) (hD : Lst (ic .u32) 1 w w.heap.size Ad m ds) (hq : q ≤ 100) (hm : m ≤ 100) {V : Nat → Prop} :
    Calls Try.prog 37 #[.agg (sackC cc win Ag q kg Ad m kd).toArray] w fun e w' => ∃ v N, e = .returned v ∧ BuildR v N ∧ New V N w w' := by
  have hgl := hG.len
  have hdl := hD.len
  have fq := fun w hL => fits_q cc win Ag q kg Ad m kd l hr w hL hq hm
  generalize (l.map fun p => ((p.1 : Int), (p.2 : Int))) = gs at *
  clear hr
  have sq := fun w h1 h2 => csame_q cc win Ag q kg Ad m kd gs ds w h1 h2 hq hm
  refine enterW (fun _ => False) _ Try.func37 rfl (by simp only [Try.ntmps37, List.length_cons, List.length_nil, Nat.reduceAdd, Nat.reduceSub]; rfl) ?_
  refine WC.addVw (ic_len .u32) hD ?_
  refine WC.addVw (pc_len .u16) hG ?_
  repeat' (first
    | refine goS ?_
    | ((with_reducible refine WL.isN_bin ?_); first | refine WL.yld rfl binQ ?_)
    | ((with_reducible refine WK.isN_bin ?_); first | refine WK.yld rfl binQ ?_)
    | ((with_reducible refine WL.isN_load ?_); first | refine WL.yld rfl loadQ ?_)
    | ((with_reducible refine WK.isN_load ?_); first | refine WK.yld rfl loadQ ?_)
    | ((with_reducible refine WL.isN_iaddr ?_); first | refine WL.yld rfl iaddrQ ?_)
    | ((with_reducible refine WK.isN_iaddr ?_); first | refine WK.yld rfl iaddrQ ?_)
    | ((with_reducible refine WL.isN_conv ?_); first | refine WL.yld rfl convQ ?_)
    | ((with_reducible refine WK.isN_conv ?_); first | refine WK.yld rfl convQ ?_)
    | ((with_reducible refine WL.isN_call ?_); first | refine WL.step rfl (StepTo.callV (v := .tuple #[.string (bs []), .int .i64 0]) (us := [.slice none 0 0]) rfl rfl rfl rfl rfl (by kernel_rfl) (fun w hw => tlvnil_q w) ?_) | refine WK.step rfl (Qui.call (v := .bool true) (us := [.agg (sackC cc win Ag q kg Ad m kd).toArray]) rfl rfl rfl (by kernel_rfl) (fun w hw => fq w (hw.lst 1 (pc_len .u16) (by omega) rfl))) ?_ | refine WK.step rfl (Qui.call (v := .agg (sackC cc win Ag q kg Ad m kd).toArray) (us := [.agg (sackC cc win Ag q kg Ad m kd).toArray]) rfl rfl rfl (by kernel_rfl) (fun w _ => only_q cc win Ag q kg Ad m kd _)) ?_ | refine WK.step rfl (Qui.call (v := .bool true) (us := [.agg (sackC cc win Ag q kg Ad m kd).toArray, .agg (sackC cc win Ag q kg Ad m kd).toArray]) rfl rfl rfl (by kernel_rfl) (fun w hw => sq w (hw.lst 1 (pc_len .u16) (by omega) rfl) (hw.lst 2 (ic_len .u32) (by omega) rfl))) ?_ | refine WL.yld rfl lenQ ?_ | refine WL.step rfl (StepTo.append 0 rfl rfl rfl rfl rfl rfl rfl rfl rfl rfl rfl rfl (by first | exact CellsAt.boxAll 0 rfl | exact CellsAt.boxAll 1 rfl | exact CellsAt.boxAll 2 rfl | exact CellsAt.boxAll 3 rfl | exact CellsAt.boxAll 4 rfl) rfl rfl (by omega) (fun _ _ => ⟨_, setQ, ?_⟩)) | refine WL.step rfl (StepTo.append 1 rfl rfl rfl rfl rfl rfl rfl rfl rfl rfl rfl rfl (by first | exact CellsAt.boxAll 0 rfl | exact CellsAt.boxAll 1 rfl | exact CellsAt.boxAll 2 rfl | exact CellsAt.boxAll 3 rfl | exact CellsAt.boxAll 4 rfl) rfl rfl (by omega) (fun _ _ => ⟨_, setQ, ?_⟩)) | refine WL.step rfl (StepTo.append 2 rfl rfl rfl rfl rfl rfl rfl rfl rfl rfl rfl rfl (by first | exact CellsAt.boxAll 0 rfl | exact CellsAt.boxAll 1 rfl | exact CellsAt.boxAll 2 rfl | exact CellsAt.boxAll 3 rfl | exact CellsAt.boxAll 4 rfl) rfl rfl (by omega) (fun _ _ => ⟨_, setQ, ?_⟩)) | refine WL.step rfl (StepTo.append 3 rfl rfl rfl rfl rfl rfl rfl rfl rfl rfl rfl rfl (by first | exact CellsAt.boxAll 0 rfl | exact CellsAt.boxAll 1 rfl | exact CellsAt.boxAll 2 rfl | exact CellsAt.boxAll 3 rfl | exact CellsAt.boxAll 4 rfl) rfl rfl (by omega) (fun _ _ => ⟨_, setQ, ?_⟩)) | refine WL.step rfl (StepTo.append 4 rfl rfl rfl rfl rfl rfl rfl rfl rfl rfl rfl rfl (by first | exact CellsAt.boxAll 0 rfl | exact CellsAt.boxAll 1 rfl | exact CellsAt.boxAll 2 rfl | exact CellsAt.boxAll 3 rfl | exact CellsAt.boxAll 4 rfl) rfl rfl (by omega) (fun _ _ => ⟨_, setQ, ?_⟩)) | refine WL.step rfl (StepTo.append 5 rfl rfl rfl rfl rfl rfl rfl rfl rfl rfl rfl rfl (by first | exact CellsAt.boxAll 0 rfl | exact CellsAt.boxAll 1 rfl | exact CellsAt.boxAll 2 rfl | exact CellsAt.boxAll 3 rfl | exact CellsAt.boxAll 4 rfl) rfl rfl (by omega) (fun _ _ => ⟨_, setQ, ?_⟩)) | refine WL.step rfl (StepTo.append 6 rfl rfl rfl rfl rfl rfl rfl rfl rfl rfl rfl rfl (by first | exact CellsAt.boxAll 0 rfl | exact CellsAt.boxAll 1 rfl | exact CellsAt.boxAll 2 rfl | exact CellsAt.boxAll 3 rfl | exact CellsAt.boxAll 4 rfl) rfl rfl (by omega) (fun _ _ => ⟨_, setQ, ?_⟩)))
    | ((with_reducible refine WK.isN_call ?_); first | refine WL.step rfl (StepTo.callV (v := .tuple #[.string (bs []), .int .i64 0]) (us := [.slice none 0 0]) rfl rfl rfl rfl rfl (by kernel_rfl) (fun w hw => tlvnil_q w) ?_) | refine WK.step rfl (Qui.call (v := .bool true) (us := [.agg (sackC cc win Ag q kg Ad m kd).toArray]) rfl rfl rfl (by kernel_rfl) (fun w hw => fq w (hw.lst 1 (pc_len .u16) (by omega) rfl))) ?_ | refine WK.step rfl (Qui.call (v := .agg (sackC cc win Ag q kg Ad m kd).toArray) (us := [.agg (sackC cc win Ag q kg Ad m kd).toArray]) rfl rfl rfl (by kernel_rfl) (fun w _ => only_q cc win Ag q kg Ad m kd _)) ?_ | refine WK.step rfl (Qui.call (v := .bool true) (us := [.agg (sackC cc win Ag q kg Ad m kd).toArray, .agg (sackC cc win Ag q kg Ad m kd).toArray]) rfl rfl rfl (by kernel_rfl) (fun w hw => sq w (hw.lst 1 (pc_len .u16) (by omega) rfl) (hw.lst 2 (ic_len .u32) (by omega) rfl))) ?_ | refine WK.yld rfl lenQ ?_)
    | ((with_reducible refine WL.isN_box ?_); first | refine WL.step rfl (StepTo.boxA rfl rfl rfl rfl (fun _ => ?_)) | refine WL.step rfl (StepTo.box1 rfl rfl rfl rfl rfl (fun _ => ?_)))
    | ((with_reducible refine WL.isN_store ?_); first | refine WL.step rfl (StepTo.st1 rfl rfl rfl rfl rfl rfl ?_) | refine WL.step rfl (StepTo.stA rfl rfl rfl rfl rfl rfl rfl ?_) | refine WL.step rfl (StepTo.stR rfl rfl rfl rfl rfl rfl rfl ?_))
    | ((with_reducible refine WL.isN_bslice ?_); first | refine WL.step rfl (StepTo.buildSlice (cs := flat bc [3, 0, 0, 0]) rfl rfl rfl rfl rfl rfl rfl rfl rfl rfl cellsOfQ (fun _ => ?_)) | refine WL.step rfl (StepTo.buildSlice rfl rfl rfl rfl rfl rfl rfl rfl rfl rfl cellsOfQ (fun _ => ?_)))
    | with_reducible refine WC.block ?_
    | (refine WC.quiet (i := 2) (by kernel_rfl) (by kernel_rfl) ?_)
    | (refine WC.cond rfl (fun hc => ?_) (fun hc => ?_) <;> (try first | (with_reducible replace hc := of_decide_eq_true hc) | (with_reducible replace hc := of_decide_eq_false hc) | (with_reducible replace hc := eqT hc) | (with_reducible replace hc := eqF hc) | (with_reducible replace hc := neT hc) | (with_reducible replace hc := neF hc) | (with_reducible replace hc := noT hc) | (with_reducible replace hc := noF hc)) <;> (try (exfalso; omega))))
  rename_i b1 g
  refine WL.boxRow 0 4 1 rfl rfl (by omega) ?_
  refine WL.step rfl (StepTo.callP (us := [.slice (some ⟨g, 0, none⟩) 4 4, .agg (sackC cc win Ag q kg Ad m kd).toArray]) (HI := [.row (some ⟨g, 0, none⟩) 4 4 5 1 (flat bc [3, 0, 0, 0])]) [0] [1, 2, 3] ⟨by decide, rfl⟩ rfl ⟨by decide, rfl⟩ rfl rfl rfl rfl rfl rfl (by kernel_rfl) (fun w hw hS => value_w cc win Ag q kg Ad m kd gs ds hgl hdl hq hm g 4 [3, 0, 0, 0] (by decide) (by decide) w (hw.lone3 (i := 0) (j := 2) (k := 3) ⟨by decide, rfl⟩ rfl rfl)) ?_)
  rintro v NN ⟨A2, c2, L2, hl2, rfl, rfl⟩
  have hl3 : L2.length = 16 + 4 * q + 4 * m := hl2
  clear hl2
  refine WL.rowAt 0 rfl (by omega) fun g2 hg2 => ?_
  subst hg2
  obtain ⟨y1, hy1⟩ := wrap8 ((L2.length : Int) / 2 ^ 8)
  obtain ⟨y2, hy2⟩ := wrap8 (L2.length : Int)
  have hs1 := bc_set L2 2 y1
  have hs2 := bc_set (L2.set 2 y1) 3 y2
  have hll : ((L2.set 2 y1).set 3 y2).length = L2.length := by simp
  have hfl : (flat bc L2).length = L2.length := by rw [flat_bc, List.length_map]
  have hfl2 : (flat bc (L2.set 2 y1)).length = L2.length := by rw [flat_bc, List.length_map, List.length_set]
  obtain ⟨r, hr3, pq⟩ := pad_q L2.length (by omega)
  generalize (L2.set 2 y1).set 3 y2 = L3 at *
  have hzs : flat bc L3 ++ List.replicate r (.int .u8 0) = flat bc (L3 ++ List.replicate r 0) := by rw [flat_bc, flat_bc, List.map_append, List.map_replicate]; rfl
  have hlr : (L3 ++ List.replicate r 0).length = L2.length + r := by rw [List.length_append, List.length_replicate, hll]
  generalize L3 ++ List.replicate r 0 = L4 at *
  repeat' (first
    | refine goS ?_
    | ((with_reducible refine WL.isN_bin ?_); first | refine WL.yld rfl (Yld.shrE 8 rfl rfl rfl rfl (by decide) rfl) ?_ | refine WL.yld rfl binQ ?_)
    | ((with_reducible refine WL.isN_load ?_); first | refine WL.yld rfl loadQ ?_)
    | ((with_reducible refine WL.isN_iaddr ?_); first | refine WL.yld rfl (Yld.indexS 2 rfl rfl rfl rfl rfl rfl (by omega)) ?_ | refine WL.yld rfl (Yld.indexS 3 rfl rfl rfl rfl rfl rfl (by omega)) ?_ | refine WL.yld rfl iaddrQ ?_)
    | ((with_reducible refine WL.isN_conv ?_); first | refine WL.yld rfl (Yld.convInt rfl rfl rfl rfl hy1) ?_ | refine WL.yld rfl (Yld.convInt rfl rfl rfl rfl hy2) ?_ | refine WL.yld rfl convQ ?_)
    | ((with_reducible refine WL.isN_call ?_); first | refine WL.step rfl (StepTo.callV (v := .int .i64 (r : Nat)) (us := [.int .i64 (L2.length : Nat)]) rfl rfl rfl rfl rfl (by kernel_rfl) (fun w hw => pq w) ?_) | refine WL.step rfl (StepTo.appendNoughts 9 0 rfl rfl rfl rfl rfl rfl rfl rfl rfl rfl rfl (by omega) (by omega) hzs (fun _ _ => ⟨_, setQ, ?_⟩)) | refine WL.yld rfl lenQ ?_ | refine WL.step rfl (StepTo.append 0 rfl rfl rfl rfl rfl rfl rfl rfl rfl rfl rfl rfl (by first | exact CellsAt.boxAll 0 rfl | exact CellsAt.boxAll 1 rfl | exact CellsAt.boxAll 2 rfl | exact CellsAt.boxAll 3 rfl | exact CellsAt.boxAll 4 rfl) rfl rfl (by omega) (fun _ _ => ⟨_, setQ, ?_⟩)) | refine WL.step rfl (StepTo.append 1 rfl rfl rfl rfl rfl rfl rfl rfl rfl rfl rfl rfl (by first | exact CellsAt.boxAll 0 rfl | exact CellsAt.boxAll 1 rfl | exact CellsAt.boxAll 2 rfl | exact CellsAt.boxAll 3 rfl | exact CellsAt.boxAll 4 rfl) rfl rfl (by omega) (fun _ _ => ⟨_, setQ, ?_⟩)) | refine WL.step rfl (StepTo.append 2 rfl rfl rfl rfl rfl rfl rfl rfl rfl rfl rfl rfl (by first | exact CellsAt.boxAll 0 rfl | exact CellsAt.boxAll 1 rfl | exact CellsAt.boxAll 2 rfl | exact CellsAt.boxAll 3 rfl | exact CellsAt.boxAll 4 rfl) rfl rfl (by omega) (fun _ _ => ⟨_, setQ, ?_⟩)) | refine WL.step rfl (StepTo.append 3 rfl rfl rfl rfl rfl rfl rfl rfl rfl rfl rfl rfl (by first | exact CellsAt.boxAll 0 rfl | exact CellsAt.boxAll 1 rfl | exact CellsAt.boxAll 2 rfl | exact CellsAt.boxAll 3 rfl | exact CellsAt.boxAll 4 rfl) rfl rfl (by omega) (fun _ _ => ⟨_, setQ, ?_⟩)) | refine WL.step rfl (StepTo.append 4 rfl rfl rfl rfl rfl rfl rfl rfl rfl rfl rfl rfl (by first | exact CellsAt.boxAll 0 rfl | exact CellsAt.boxAll 1 rfl | exact CellsAt.boxAll 2 rfl | exact CellsAt.boxAll 3 rfl | exact CellsAt.boxAll 4 rfl) rfl rfl (by omega) (fun _ _ => ⟨_, setQ, ?_⟩)) | refine WL.step rfl (StepTo.append 5 rfl rfl rfl rfl rfl rfl rfl rfl rfl rfl rfl rfl (by first | exact CellsAt.boxAll 0 rfl | exact CellsAt.boxAll 1 rfl | exact CellsAt.boxAll 2 rfl | exact CellsAt.boxAll 3 rfl | exact CellsAt.boxAll 4 rfl) rfl rfl (by omega) (fun _ _ => ⟨_, setQ, ?_⟩)) | refine WL.step rfl (StepTo.append 6 rfl rfl rfl rfl rfl rfl rfl rfl rfl rfl rfl rfl (by first | exact CellsAt.boxAll 0 rfl | exact CellsAt.boxAll 1 rfl | exact CellsAt.boxAll 2 rfl | exact CellsAt.boxAll 3 rfl | exact CellsAt.boxAll 4 rfl) rfl rfl (by omega) (fun _ _ => ⟨_, setQ, ?_⟩)))
    | ((with_reducible refine WL.isN_box ?_); first | refine WL.step rfl (StepTo.boxA rfl rfl rfl rfl (fun _ => ?_)) | refine WL.step rfl (StepTo.box1 rfl rfl rfl rfl rfl (fun _ => ?_)))
    | ((with_reducible refine WL.isN_store ?_); first | refine WL.step rfl (StepTo.stRE (q := 2) 0 rfl rfl rfl rfl rfl rfl rfl rfl rfl (by omega) hs1 setQ ?_) | refine WL.step rfl (StepTo.stRE (q := 3) 0 rfl rfl rfl rfl rfl rfl rfl rfl rfl (by omega) hs2 setQ ?_) | refine WL.step rfl (StepTo.st1 rfl rfl rfl rfl rfl rfl ?_) | refine WL.step rfl (StepTo.stA rfl rfl rfl rfl rfl rfl rfl ?_) | refine WL.step rfl (StepTo.stR rfl rfl rfl rfl rfl rfl rfl ?_))
    | ((with_reducible refine WL.isN_bslice ?_); first | refine WL.step rfl (StepTo.buildSlice rfl rfl rfl rfl rfl rfl rfl rfl rfl rfl cellsOfQ (fun _ => ?_)))
    | with_reducible refine WC.block ?_
    | (refine WC.cond rfl (fun hc => ?_) (fun hc => ?_) <;> (try first | (with_reducible replace hc := of_decide_eq_true hc) | (with_reducible replace hc := of_decide_eq_false hc) | (with_reducible replace hc := eqT hc) | (with_reducible replace hc := eqF hc) | (with_reducible replace hc := neT hc) | (with_reducible replace hc := neF hc) | (with_reducible replace hc := noT hc) | (with_reducible replace hc := noF hc)) <;> (try (exfalso; omega))))
  rw [← hlr]
  repeat' (first
    | refine goS ?_
    | ((with_reducible refine WL.isN_bin ?_); first | refine WL.yld rfl binQ ?_)
    | ((with_reducible refine WL.isN_load ?_); first | refine WL.yld rfl loadQ ?_)
    | ((with_reducible refine WL.isN_iaddr ?_); first | refine WL.yld rfl iaddrQ ?_)
    | ((with_reducible refine WL.isN_conv ?_); first | refine WL.yld rfl (Yld.ofBytes (s := L4) rfl rfl rfl rfl rfl rfl (by rw [← flat_bc L4]; exact CellsAt.rowAll 0 rfl)) ?_ | refine WL.yld rfl convQ ?_)
    | ((with_reducible refine WL.isN_call ?_); first | refine WL.yld rfl lenQ ?_ | refine WL.step rfl (StepTo.append 0 rfl rfl rfl rfl rfl rfl rfl rfl rfl rfl rfl rfl (by first | exact CellsAt.boxAll 0 rfl | exact CellsAt.boxAll 1 rfl | exact CellsAt.boxAll 2 rfl | exact CellsAt.boxAll 3 rfl | exact CellsAt.boxAll 4 rfl) rfl rfl (by omega) (fun _ _ => ⟨_, setQ, ?_⟩)) | refine WL.step rfl (StepTo.append 1 rfl rfl rfl rfl rfl rfl rfl rfl rfl rfl rfl rfl (by first | exact CellsAt.boxAll 0 rfl | exact CellsAt.boxAll 1 rfl | exact CellsAt.boxAll 2 rfl | exact CellsAt.boxAll 3 rfl | exact CellsAt.boxAll 4 rfl) rfl rfl (by omega) (fun _ _ => ⟨_, setQ, ?_⟩)) | refine WL.step rfl (StepTo.append 2 rfl rfl rfl rfl rfl rfl rfl rfl rfl rfl rfl rfl (by first | exact CellsAt.boxAll 0 rfl | exact CellsAt.boxAll 1 rfl | exact CellsAt.boxAll 2 rfl | exact CellsAt.boxAll 3 rfl | exact CellsAt.boxAll 4 rfl) rfl rfl (by omega) (fun _ _ => ⟨_, setQ, ?_⟩)) | refine WL.step rfl (StepTo.append 3 rfl rfl rfl rfl rfl rfl rfl rfl rfl rfl rfl rfl (by first | exact CellsAt.boxAll 0 rfl | exact CellsAt.boxAll 1 rfl | exact CellsAt.boxAll 2 rfl | exact CellsAt.boxAll 3 rfl | exact CellsAt.boxAll 4 rfl) rfl rfl (by omega) (fun _ _ => ⟨_, setQ, ?_⟩)) | refine WL.step rfl (StepTo.append 4 rfl rfl rfl rfl rfl rfl rfl rfl rfl rfl rfl rfl (by first | exact CellsAt.boxAll 0 rfl | exact CellsAt.boxAll 1 rfl | exact CellsAt.boxAll 2 rfl | exact CellsAt.boxAll 3 rfl | exact CellsAt.boxAll 4 rfl) rfl rfl (by omega) (fun _ _ => ⟨_, setQ, ?_⟩)) | refine WL.step rfl (StepTo.append 5 rfl rfl rfl rfl rfl rfl rfl rfl rfl rfl rfl rfl (by first | exact CellsAt.boxAll 0 rfl | exact CellsAt.boxAll 1 rfl | exact CellsAt.boxAll 2 rfl | exact CellsAt.boxAll 3 rfl | exact CellsAt.boxAll 4 rfl) rfl rfl (by omega) (fun _ _ => ⟨_, setQ, ?_⟩)) | refine WL.step rfl (StepTo.append 6 rfl rfl rfl rfl rfl rfl rfl rfl rfl rfl rfl rfl (by first | exact CellsAt.boxAll 0 rfl | exact CellsAt.boxAll 1 rfl | exact CellsAt.boxAll 2 rfl | exact CellsAt.boxAll 3 rfl | exact CellsAt.boxAll 4 rfl) rfl rfl (by omega) (fun _ _ => ⟨_, setQ, ?_⟩)))
    | ((with_reducible refine WL.isN_box ?_); first | refine WL.step rfl (StepTo.boxA rfl rfl rfl rfl (fun _ => ?_)) | refine WL.step rfl (StepTo.box1 rfl rfl rfl rfl rfl (fun _ => ?_)))
    | ((with_reducible refine WL.isN_store ?_); first | refine WL.step rfl (StepTo.st1 rfl rfl rfl rfl rfl rfl ?_) | refine WL.step rfl (StepTo.stA rfl rfl rfl rfl rfl rfl rfl ?_) | refine WL.step rfl (StepTo.stR rfl rfl rfl rfl rfl rfl rfl ?_))
    | ((with_reducible refine WL.isN_bslice ?_); first | refine WL.step rfl (StepTo.buildSlice rfl rfl rfl rfl rfl rfl rfl rfl rfl rfl cellsOfQ (fun _ => ?_)))
    | with_reducible refine WC.block ?_
    | (refine WC.cond rfl (fun hc => ?_) (fun hc => ?_) <;> (try first | (with_reducible replace hc := of_decide_eq_true hc) | (with_reducible replace hc := of_decide_eq_false hc) | (with_reducible replace hc := eqT hc) | (with_reducible replace hc := eqF hc) | (with_reducible replace hc := neT hc) | (with_reducible replace hc := neF hc) | (with_reducible replace hc := noT hc) | (with_reducible replace hc := noF hc)) <;> (try (exfalso; omega))))
  exact WQ.body (Reads.tmp2 rfl rfl rfl) fun w' hw' => ⟨_, [], rfl, ⟨L4, rfl, rfl⟩, (hw'.pick (idx := []) ⟨by decide, rfl⟩).toNew fun it hit => absurd hit (by simp)⟩
theorem cright_q (cc win : Int) (Ag : Option Addr) (q kg : Nat) (Ad : Option Addr) (m kd : Nat) (l : List (Nat × Nat)) (ds : List Int) (hr : Rising l) (w : World) (hG : Lst (pc .u16) 2 w w.heap.size Ag q (l.map fun p => ((p.1 : Int), (p.2 : Int)))) (hD : Lst (ic .u32) 1 w w.heap.size Ad m ds) (hq : q ≤ 100) (hm : m ≤ 100) :
    Calls Try.prog 28 #[.agg (sackC cc win Ag q kg Ad m kd).toArray] w fun e w' => e = .returned (.bool true) ∧ Below w.heap.size w w' := by
  have bq := fun w h1 h2 {V : Nat → Prop} => build_w cc win Ag q kg Ad m kd l ds hr w h1 h2 hq hm (V := V)
  clear hr
  refine enterW (fun _ => False) _ Try.func28 rfl (by simp only [Try.ntmps28, List.length_cons, List.length_nil, Nat.reduceAdd, Nat.reduceSub]; rfl) ?_
  refine WC.addVw (ic_len .u32) hD ?_
  refine WC.addVw (pc_len .u16) hG ?_
  repeat' (first
    | refine goS ?_
    | ((with_reducible refine WL.isN_bin ?_); first | refine WL.yld rfl binQ ?_)
    | ((with_reducible refine WL.isN_load ?_); first | refine WL.yld rfl loadQ ?_)
    | ((with_reducible refine WL.isN_box ?_); first | refine WL.step rfl (StepTo.boxA rfl rfl rfl rfl (fun _ => ?_)) | refine WL.step rfl (StepTo.box1 rfl rfl rfl rfl rfl (fun _ => ?_)))
    | with_reducible refine WC.block ?_
    | (refine WC.cond rfl (fun hc => ?_) (fun hc => ?_) <;> (try first | (with_reducible replace hc := of_decide_eq_true hc) | (with_reducible replace hc := of_decide_eq_false hc) | (with_reducible replace hc := eqT hc) | (with_reducible replace hc := eqF hc) | (with_reducible replace hc := neT hc) | (with_reducible replace hc := neF hc) | (with_reducible replace hc := noT hc) | (with_reducible replace hc := noF hc)) <;> (try (exfalso; omega))))
  refine WL.step rfl (StepTo.callN [0] (us := [.agg (sackC cc win Ag q kg Ad m kd).toArray]) rfl rfl rfl rfl rfl (by kernel_rfl) (fun w hw => bq w (hw.lst 1 (pc_len .u16) (by omega) rfl) (hw.lst 2 (ic_len .u32) (by omega) rfl)) ?_)
  rintro v NN ⟨L, rfl, rfl⟩
  repeat' (first
    | refine goS ?_
    | ((with_reducible refine WL.isN_bin ?_); first | refine WL.yld rfl binQ ?_)
    | ((with_reducible refine WL.isN_load ?_); first | refine WL.yld rfl loadQ ?_)
    | ((with_reducible refine WL.isN_box ?_); first | refine WL.step rfl (StepTo.boxA rfl rfl rfl rfl (fun _ => ?_)) | refine WL.step rfl (StepTo.box1 rfl rfl rfl rfl rfl (fun _ => ?_)))
    | with_reducible refine WC.block ?_
    | (refine WC.cond rfl (fun hc => ?_) (fun hc => ?_) <;> (try first | (with_reducible replace hc := of_decide_eq_true hc) | (with_reducible replace hc := of_decide_eq_false hc) | (with_reducible replace hc := eqT hc) | (with_reducible replace hc := eqF hc) | (with_reducible replace hc := neT hc) | (with_reducible replace hc := neF hc) | (with_reducible replace hc := noT hc) | (with_reducible replace hc := noF hc)) <;> (try (exfalso; omega))))
  exact WQ.body (Reads.tmp rfl rfl) fun w' hw' => ⟨rfl, hw'.ext.below⟩
end Go.Proofs.Ythbhjnmkbmmcnaa
