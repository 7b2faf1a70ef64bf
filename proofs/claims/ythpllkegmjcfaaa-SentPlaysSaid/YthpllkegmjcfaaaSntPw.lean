/- Whatever happens, pieces stay right: the walk of SentPlays. -/
import Derived.Test.YthpllkegmjcfaaaSntPl
import Derived.Test.YthpllkegmjcfaaaSntPk
import Derived.Test.YthpllkegmjcfaaaOpen
namespace Go.Proofs.Ythpllkegmjcfaaa
open Go.RowKit
set_option linter.unusedVariables false

theorem WQ.capRow {w0 : World} {D : Nat → Prop} {n : Nat} {Q : Act → World → Prop} {τ : Tm} {H : List Item} (i : Nat) {A : Option Addr} {m c t k : Nat} {xs : List Value} (hi : H[i]? = some (.row A m c t k xs)) (h : m ≤ c → WQ w0 D n Q τ H) : WQ w0 D n Q τ H :=
  ⟨fun a w ha hw => (h (own_cap (hw.holds _ (List.mem_of_getElem? hi)))).go a w ha hw⟩
theorem WQ.rowVw {w0 : World} {D : Nat → Prop} {n : Nat} {Q : Act → World → Prop} {τ : Tm} {H : List Item} (i : Nat) {A : Option Addr} {m cap t k : Nat} {xs : List Value} (hi : H[i]? = some (.row A m cap t k xs)) (hm : m ≤ 4611686018427387904) (h : WQ w0 D n Q τ (H.set i (.vw A m k xs))) : WQ w0 D n Q τ H :=
  ⟨fun a w ha hw => h.go a w ha (hw.rowVw hi (by simp only [maxLen]; omega))⟩
theorem WQ.boxVw {w0 : World} {D : Nat → Prop} {n : Nat} {Q : Act → World → Prop} {τ : Tm} {H : List Item} (i n' k : Nat) {b t : Nat} {cs : List Value} (hi : H[i]? = some (.box b t cs)) (hl : cs.length = n' * k) (hn : n' ≤ 4611686018427387904) (h : WQ w0 D n Q τ (H.set i (.vw (some ⟨b, 0, none⟩) n' k cs))) : WQ w0 D n Q τ H :=
  ⟨fun a w ha hw => h.go a w ha (hw.boxVw i hi hl hn)⟩
structure Act6 where
  op : Int
  up : Int
  frm : Int
  to : Int
  size : Int
  path : Int
def Act6.cs (a : Act6) : List Value := [.int .i64 a.op, .int .i64 a.up, .int .i64 a.frm, .int .i64 a.to, .int .i64 a.size, .int .i64 a.path]
theorem Act6.cs_len (a : Act6) : a.cs.length = 6 := rfl
def I64 (x : Int) : Prop := -9223372036854775808 ≤ x ∧ x ≤ 9223372036854775807
structure Act6.Ok (a : Act6) : Prop where
  op : I64 a.op
  up : I64 a.up
  frm : I64 a.frm
  to : I64 a.to
  size : I64 a.size
  path : I64 a.path

set_option maxHeartbeats 4000000 in
theorem sentPlays_any (first : Int) (A : Option Addr) (n c : Nat) (xs : List Act6) (w : World) (f0 : 0 ≤ first) (f1 : first ≤ 4294967295) (hL : Lst Act6.cs 6 w w.heap.size A n xs) (hx : ∀ a ∈ xs, a.Ok) :
    Calls Try.prog 5 #[.int .u32 first, .slice A n c] w
      fun e w' => e = .returned (.bool true) ∧ Below w.heap.size w w' := by
  have hl := hL.len
  have hm := hL.most
  unfold maxLen at hm
  refine enterW (fun _ => False) _ Try.func5 rfl (by simp only [Try.ntmps5, List.length_cons, List.length_nil, Nat.reduceAdd, Nat.reduceSub]; rfl) ?_
  refine WC.addVw Act6.cs_len hL ?_
  repeat' (first
    | with_reducible refine WL.nil ?_
    | with_reducible refine WQ.thenN ?_
    | with_reducible refine WQ.code ?_
    | with_reducible refine WC.seq ?_
    | with_reducible refine WC.region ?_
    | ((with_reducible refine WL.isN_move ?_); first | refine WL.yld rfl (Yld.pure rfl nrmQ) ?_)
    | ((with_reducible refine WL.isN_assign ?_); first | refine WL.yld rfl (Yld.pure rfl nrmQ) ?_)
    | ((with_reducible refine WL.isN_bin ?_); first | refine WL.yld rfl (Yld.pure rfl nrmQ) ?_ | refine WL.yld rfl (Yld.rem rfl rfl rfl rfl (by omega) (by omega)) ?_ | refine WL.yld rfl (Yld.quo rfl rfl rfl rfl (by omega) (by omega) nrmQ) ?_ | refine WL.yld rfl (Yld.eqlB rfl rfl rfl rfl) ?_ | refine WL.yld rfl (Yld.neqB rfl rfl rfl rfl) ?_ | refine WL.yld rfl (Yld.eqlA 4 rfl rfl rfl (by kernel_rfl) (by kernel_rfl) rfl rfl) ?_ | refine WL.yld rfl (Yld.neqA 4 rfl rfl rfl (by kernel_rfl) (by kernel_rfl) rfl rfl) ?_ | refine WL.yld rfl (Yld.quoT rfl rfl rfl rfl (by omega) nrmQ) ?_)
    | ((with_reducible refine WL.isN_un ?_); first | refine WL.yld rfl (Yld.pure rfl nrmQ) ?_)
    | ((with_reducible refine WL.isN_extract ?_); first | refine WL.yld rfl (Yld.pure rfl nrmQ) ?_)
    | ((with_reducible refine WL.isN_load ?_); first | refine WL.yld rfl (Yld.load rfl rfl rfl rfl cellQ) ?_ | refine WL.yld rfl (Yld.loadAgg rfl rfl rfl rfl rfl aggQ) ?_)
    | ((with_reducible refine WL.isN_faddr ?_); first | refine WL.yld rfl (Yld.fieldAddr rfl rfl rfl rfl rfl rfl rfl) ?_)
    | ((with_reducible refine WL.isN_iaddr ?_); first | refine WL.yld rfl (Yld.indexS 0 rfl rfl rfl rfl rfl rfl (by omega)) ?_ | refine WL.yld rfl (Yld.indexS 1 rfl rfl rfl rfl rfl rfl (by omega)) ?_ | refine WL.yld rfl (Yld.indexS 2 rfl rfl rfl rfl rfl rfl (by omega)) ?_ | refine WL.yld rfl (Yld.indexS _ rfl rfl rfl rfl rfl rfl (by omega)) ?_ | refine WL.yld rfl (Yld.indexA 0 rfl rfl rfl rfl rfl rfl (by omega)) ?_ | refine WL.yld rfl (Yld.indexA 1 rfl rfl rfl rfl rfl rfl (by omega)) ?_ | refine WL.yld rfl (Yld.indexA _ rfl rfl rfl rfl rfl rfl (by omega)) ?_)
    | ((with_reducible refine WL.isN_conv ?_); first | refine WL.yld rfl (Yld.convInt rfl rfl rfl rfl nrmQ) ?_)
    | ((with_reducible refine WL.isN_build ?_); first | refine WL.yld rfl (Yld.build rfl rfl rfl) ?_)
    | ((with_reducible refine WL.isN_pick ?_); first | refine WL.yld rfl (Yld.pickT rfl rfl rfl) ?_ | refine WL.yld rfl (Yld.pickF rfl rfl rfl) ?_ | refine WL.yld rfl (Yld.pickTh rfl rfl gdQ rfl) ?_ | refine WL.yld rfl (Yld.pickFh rfl rfl gdQ rfl) ?_ | refine WL.yld rfl (Yld.pickB rfl rfl rfl rfl) ?_)
    | ((with_reducible refine WL.isN_call ?_); first | refine WL.step rfl (StepTo.callV (v := .bool true) (us := []) rfl rfl rfl rfl rfl (by kernel_rfl) (fun w _ => sshown_any w) ?_) | refine WL.step rfl (StepTo.callV (us := [.int .u32 first]) rfl rfl rfl rfl rfl (by kernel_rfl) (fun w _ => new_q first w) ?_) | refine WL.yld rfl (Yld.lenSlice rfl rfl rfl) ?_ | refine WL.yld rfl (Yld.lenStr rfl rfl rfl) ?_)
    | ((with_reducible refine WL.isT ?_); first | refine WL.skipT rfl rfl rfl rfl gdQ ?_ | refine WL.skipU rfl rfl rfl rfl ?_ | refine WL.runT rfl rfl rfl gdQ ?_)
    | ((with_reducible refine WL.isF ?_); first | refine WL.skipF rfl rfl rfl rfl gdQ ?_ | refine WL.skipU rfl rfl rfl rfl ?_ | refine WL.runF rfl rfl rfl gdQ ?_)
    | ((with_reducible refine WL.isN_alloc ?_); first | refine WL.step rfl (StepTo.allocA rfl rfl rfl rfl (fun _ => ?_)) | refine WL.step rfl (StepTo.alloc1 rfl rfl rfl rfl rfl (fun _ => ?_)))
    | ((with_reducible refine WL.isN_store ?_); first | refine WL.step rfl (StepTo.st1 rfl rfl rfl rfl rfl rfl ?_) | refine WL.step rfl (StepTo.stA rfl rfl rfl rfl rfl rfl rfl ?_) | refine WL.step rfl (StepTo.stR rfl rfl rfl rfl rfl rfl rfl ?_))
    | ((with_reducible refine WL.isN_bslice ?_); first | refine WL.step rfl (StepTo.buildSlice rfl rfl rfl rfl rfl rfl rfl rfl rfl rfl cellsOfQ (fun _ => ?_)))
    | with_reducible refine WC.block ?_
    | with_reducible refine WC.scope ?_
    | with_reducible refine WC.label ?_
    | with_reducible refine WQ.ngN ?_
    | with_reducible refine WQ.ngR ?_
    | with_reducible refine WQ.ngX ?_
    | with_reducible refine WC.skip ?_
    | with_reducible refine WC.ret ?_
    | with_reducible refine WC.exit ?_
    | with_reducible refine WQ.thenR ?_
    | with_reducible refine WQ.thenX ?_
    | with_reducible refine WQ.blkN ?_
    | with_reducible refine WQ.blkR ?_
    | ((with_reducible refine WQ.blkX ?_ ?_); focus rfl)
    | ((with_reducible refine WQ.blkY ?_ ?_); focus rfl)
    | refine WC.condT rfl ?_
    | refine WC.condF rfl ?_
    | refine WC.condTh rfl gdQ ?_
    | refine WC.condFh rfl gdQ ?_
    | (refine WC.cond rfl (fun hc => ?_) (fun hc => ?_) <;> (try first | (with_reducible replace hc := of_decide_eq_true hc) | (with_reducible replace hc := of_decide_eq_false hc) | (with_reducible replace hc := eqT hc) | (with_reducible replace hc := eqF hc) | (with_reducible replace hc := neT hc) | (with_reducible replace hc := neF hc) | (with_reducible replace hc := noT hc) | (with_reducible replace hc := noF hc)) <;> (try (exfalso; omega)))
    | exact WQ.body (Reads.tmp rfl rfl) (fun _ hw' => ⟨ret_bool gdQ, hw'.ext.below⟩))
  rename_i bs
  refine WC.nilVw 7 ?_
  refine WC.loop (fun mm τ H => ∃ (i : Nat) (A' : Option Addr) (c' : Nat) (cum next dn all : Int) (ps : List Pc), i ≤ n ∧ mm = n - i ∧ Play cum next dn all i ps ∧ (0 ≤ next ∧ next ≤ 4294967295) ∧ (0 ≤ dn ∧ dn ≤ 4294967295) ∧ okA A' ps.length ∧ ps.length ≤ c' ∧
      τ = [(1, .slice A n c), (6, .pointer (some ⟨bs, 0, none⟩)), (7, .int .u32 next), (8, .int .u32 dn), (9, .int .i64 all), (10, .int .i64 i)] ∧
      H = [.box bs 25 [.int .u32 cum, .slice A' ps.length c'], .vw A' ps.length 7 (flat Pc.cs ps), .vw A n 6 (flat Act6.cs xs)])
    n _ _ [1, 0, 2] ?_ ?_ ⟨0, none, 0, (first - 1) % 4294967296, first, first, 0, [], by omega, rfl, Play.new first f0 f1, ⟨f0, f1⟩, ⟨f0, f1⟩, okA_nil, by simp, rfl, rfl⟩ ?_
  · exact (by repeat (first | exact Sub.nil | refine Sub.cons rfl ?_ | refine Sub.consE rfl (int_eq (by omega)) ?_))
  · exact ⟨by decide, rfl⟩
  rintro mm τ H ⟨i, A', c', cum, next, dn, all, ps, hi, rfl, hP, hnb, hdb, hok, hcap, rfl, rfl⟩
  by_cases hlt : i < n
  · obtain ⟨a, ha⟩ : ∃ a, xs[i]? = some a := ⟨_, List.getElem?_eq_getElem (by omega)⟩
    have hao := hx a (List.mem_of_getElem? ha)
    have hpa : PartAt (flat Act6.cs xs) (i * 6) a.cs := PartAt.flat Act6.cs_len ha
    obtain ⟨o, ho, hco⟩ := spick_n a.op 5 hao.op.1 hao.op.2 (by omega) (by omega)
    refine WC.vwAt 2 rfl (by omega) fun ba oa hA => ?_
    subst hA
    have hmost := hP.most
    have hsm := hP.right.small
    have hnx := hP.nx
    have hall := hP.allb
    have hcb := hP.cumb
    repeat' (first
    | with_reducible refine WL.nil ?_
    | with_reducible refine WQ.thenN ?_
    | with_reducible refine WQ.code ?_
    | with_reducible refine WC.seq ?_
    | with_reducible refine WC.region ?_
    | ((with_reducible refine WL.isN_move ?_); first | refine WL.yld rfl (Yld.pure rfl nrmQ) ?_)
    | ((with_reducible refine WL.isN_assign ?_); first | refine WL.yld rfl (Yld.pure rfl nrmQ) ?_)
    | ((with_reducible refine WL.isN_bin ?_); first | refine WL.yld rfl (Yld.pure rfl nrmQ) ?_ | refine WL.yld rfl (Yld.rem rfl rfl rfl rfl (by omega) (by omega)) ?_ | refine WL.yld rfl (Yld.quo rfl rfl rfl rfl (by omega) (by omega) nrmQ) ?_ | refine WL.yld rfl (Yld.eqlB rfl rfl rfl rfl) ?_ | refine WL.yld rfl (Yld.neqB rfl rfl rfl rfl) ?_ | refine WL.yld rfl (Yld.eqlA 4 rfl rfl rfl (by kernel_rfl) (by kernel_rfl) rfl rfl) ?_ | refine WL.yld rfl (Yld.neqA 4 rfl rfl rfl (by kernel_rfl) (by kernel_rfl) rfl rfl) ?_ | refine WL.yld rfl (Yld.quoT rfl rfl rfl rfl (by omega) nrmQ) ?_)
    | ((with_reducible refine WL.isN_un ?_); first | refine WL.yld rfl (Yld.pure rfl nrmQ) ?_)
    | ((with_reducible refine WL.isN_extract ?_); first | refine WL.yld rfl (Yld.pure rfl nrmQ) ?_)
    | ((with_reducible refine WL.isN_load ?_); first | refine WL.yld rfl (Yld.load rfl rfl rfl rfl cellQ) ?_ | refine WL.yld rfl (Yld.loadAgg rfl rfl rfl rfl rfl aggQ) ?_)
    | ((with_reducible refine WL.isN_faddr ?_); first | refine WL.yld rfl (Yld.fieldAddr rfl rfl rfl rfl rfl rfl rfl) ?_)
    | ((with_reducible refine WL.isN_iaddr ?_); first | refine WL.yld rfl (Yld.indexS 0 rfl rfl rfl rfl rfl rfl (by omega)) ?_ | refine WL.yld rfl (Yld.indexS 1 rfl rfl rfl rfl rfl rfl (by omega)) ?_ | refine WL.yld rfl (Yld.indexS 2 rfl rfl rfl rfl rfl rfl (by omega)) ?_ | refine WL.yld rfl (Yld.indexS _ rfl rfl rfl rfl rfl rfl (by omega)) ?_ | refine WL.yld rfl (Yld.indexA 0 rfl rfl rfl rfl rfl rfl (by omega)) ?_ | refine WL.yld rfl (Yld.indexA 1 rfl rfl rfl rfl rfl rfl (by omega)) ?_ | refine WL.yld rfl (Yld.indexA _ rfl rfl rfl rfl rfl rfl (by omega)) ?_)
    | ((with_reducible refine WL.isN_conv ?_); first | refine WL.yld rfl (Yld.convInt rfl rfl rfl rfl nrmQ) ?_)
    | ((with_reducible refine WL.isN_build ?_); first | refine WL.yld rfl (Yld.build rfl rfl rfl) ?_)
    | ((with_reducible refine WL.isN_pick ?_); first | refine WL.yld rfl (Yld.pickT rfl rfl rfl) ?_ | refine WL.yld rfl (Yld.pickF rfl rfl rfl) ?_ | refine WL.yld rfl (Yld.pickTh rfl rfl gdQ rfl) ?_ | refine WL.yld rfl (Yld.pickFh rfl rfl gdQ rfl) ?_ | refine WL.yld rfl (Yld.pickB rfl rfl rfl rfl) ?_)
    | ((with_reducible refine WL.isN_call ?_); first | refine WL.yld rfl (Yld.lenSlice rfl rfl rfl) ?_ | refine WL.yld rfl (Yld.lenStr rfl rfl rfl) ?_)
    | ((with_reducible refine WL.isT ?_); first | refine WL.skipT rfl rfl rfl rfl gdQ ?_ | refine WL.skipU rfl rfl rfl rfl ?_ | refine WL.runT rfl rfl rfl gdQ ?_)
    | ((with_reducible refine WL.isF ?_); first | refine WL.skipF rfl rfl rfl rfl gdQ ?_ | refine WL.skipU rfl rfl rfl rfl ?_ | refine WL.runF rfl rfl rfl gdQ ?_)
    | ((with_reducible refine WL.isN_alloc ?_); first | refine WL.step rfl (StepTo.allocA rfl rfl rfl rfl (fun _ => ?_)) | refine WL.step rfl (StepTo.alloc1 rfl rfl rfl rfl rfl (fun _ => ?_)))
    | ((with_reducible refine WL.isN_store ?_); first | refine WL.step rfl (StepTo.st1 rfl rfl rfl rfl rfl rfl ?_) | refine WL.step rfl (StepTo.stA rfl rfl rfl rfl rfl rfl rfl ?_) | refine WL.step rfl (StepTo.stR rfl rfl rfl rfl rfl rfl rfl ?_))
    | ((with_reducible refine WL.isN_bslice ?_); first | refine WL.step rfl (StepTo.buildSlice rfl rfl rfl rfl rfl rfl rfl rfl rfl rfl cellsOfQ (fun _ => ?_)))
    | with_reducible refine WC.scope ?_
    | with_reducible refine WC.label ?_
    | with_reducible refine WQ.ngN ?_
    | with_reducible refine WQ.ngR ?_
    | with_reducible refine WQ.ngX ?_
    | with_reducible refine WC.skip ?_
    | with_reducible refine WC.ret ?_
    | with_reducible refine WC.exit ?_
    | with_reducible refine WQ.thenR ?_
    | with_reducible refine WQ.thenX ?_
    | with_reducible refine WQ.blkN ?_
    | with_reducible refine WQ.blkR ?_
    | ((with_reducible refine WQ.blkX ?_ ?_); focus rfl)
    | ((with_reducible refine WQ.blkY ?_ ?_); focus rfl)
    | refine WC.condT rfl ?_
    | refine WC.condF rfl ?_
    | refine WC.condTh rfl gdQ ?_
    | refine WC.condFh rfl gdQ ?_
    | (refine WC.cond rfl (fun hc => ?_) (fun hc => ?_) <;> (try first | (with_reducible replace hc := of_decide_eq_true hc) | (with_reducible replace hc := of_decide_eq_false hc) | (with_reducible replace hc := eqT hc) | (with_reducible replace hc := eqF hc) | (with_reducible replace hc := neT hc) | (with_reducible replace hc := neF hc) | (with_reducible replace hc := noT hc) | (with_reducible replace hc := noF hc)) <;> (try (exfalso; omega))))
    refine WC.block ?_
    refine WC.seq ?_
    refine WC.cut (fun τ H => ∃ (A2 : Option Addr) (c2 : Nat) (cum2 next2 dn2 all2 : Int) (ps2 : List Pc), Play cum2 next2 dn2 all2 (i + 1) ps2 ∧ (0 ≤ next2 ∧ next2 ≤ 4294967295) ∧ (0 ≤ dn2 ∧ dn2 ≤ 4294967295) ∧ okA A2 ps2.length ∧ ps2.length ≤ c2 ∧
        τ = [(1, .slice (some ⟨ba, oa, none⟩) n c), (6, .pointer (some ⟨bs, 0, none⟩)), (7, .int .u32 next2), (8, .int .u32 dn2), (9, .int .i64 all2), (10, .int .i64 i)] ∧
        H = [.box bs 25 [.int .u32 cum2, .slice A2 ps2.length c2], .vw A2 ps2.length 7 (flat Pc.cs ps2), .vw (some ⟨ba, oa, none⟩) n 6 (flat Act6.cs xs)]) ?_ ?_
    · repeat' (first
    | with_reducible refine WL.nil ?_
    | with_reducible refine WQ.thenN ?_
    | with_reducible refine WQ.code ?_
    | with_reducible refine WC.seq ?_
    | with_reducible refine WC.region ?_
    | ((with_reducible refine WL.isN_move ?_); first | refine WL.yld rfl (Yld.pure rfl nrmQ) ?_)
    | ((with_reducible refine WL.isN_assign ?_); first | refine WL.yld rfl (Yld.pure rfl nrmQ) ?_)
    | ((with_reducible refine WL.isN_bin ?_); first | refine WL.yld rfl (Yld.pure rfl nrmQ) ?_ | refine WL.yld rfl (Yld.rem rfl rfl rfl rfl (by omega) (by omega)) ?_ | refine WL.yld rfl (Yld.quo rfl rfl rfl rfl (by omega) (by omega) nrmQ) ?_ | refine WL.yld rfl (Yld.eqlB rfl rfl rfl rfl) ?_ | refine WL.yld rfl (Yld.neqB rfl rfl rfl rfl) ?_ | refine WL.yld rfl (Yld.eqlA 4 rfl rfl rfl (by kernel_rfl) (by kernel_rfl) rfl rfl) ?_ | refine WL.yld rfl (Yld.neqA 4 rfl rfl rfl (by kernel_rfl) (by kernel_rfl) rfl rfl) ?_ | refine WL.yld rfl (Yld.quoT rfl rfl rfl rfl (by omega) nrmQ) ?_)
    | ((with_reducible refine WL.isN_un ?_); first | refine WL.yld rfl (Yld.pure rfl nrmQ) ?_)
    | ((with_reducible refine WL.isN_extract ?_); first | refine WL.yld rfl (Yld.pure rfl nrmQ) ?_)
    | ((with_reducible refine WL.isN_load ?_); first | refine WL.yld rfl (Yld.load rfl rfl rfl rfl cellQ) ?_ | refine WL.yld rfl (Yld.loadAgg rfl rfl rfl rfl rfl aggQ) ?_)
    | ((with_reducible refine WL.isN_faddr ?_); first | refine WL.yld rfl (Yld.fieldAddr rfl rfl rfl rfl rfl rfl rfl) ?_)
    | ((with_reducible refine WL.isN_iaddr ?_); first | refine WL.yld rfl (Yld.indexS 0 rfl rfl rfl rfl rfl rfl (by omega)) ?_ | refine WL.yld rfl (Yld.indexS 1 rfl rfl rfl rfl rfl rfl (by omega)) ?_ | refine WL.yld rfl (Yld.indexS 2 rfl rfl rfl rfl rfl rfl (by omega)) ?_ | refine WL.yld rfl (Yld.indexS _ rfl rfl rfl rfl rfl rfl (by omega)) ?_ | refine WL.yld rfl (Yld.indexA 0 rfl rfl rfl rfl rfl rfl (by omega)) ?_ | refine WL.yld rfl (Yld.indexA 1 rfl rfl rfl rfl rfl rfl (by omega)) ?_ | refine WL.yld rfl (Yld.indexA _ rfl rfl rfl rfl rfl rfl (by omega)) ?_)
    | ((with_reducible refine WL.isN_conv ?_); first | refine WL.yld rfl (Yld.convInt rfl rfl rfl rfl nrmQ) ?_)
    | ((with_reducible refine WL.isN_build ?_); first | refine WL.yld rfl (Yld.build rfl rfl rfl) ?_)
    | ((with_reducible refine WL.isN_pick ?_); first | refine WL.yld rfl (Yld.pickT rfl rfl rfl) ?_ | refine WL.yld rfl (Yld.pickF rfl rfl rfl) ?_ | refine WL.yld rfl (Yld.pickTh rfl rfl gdQ rfl) ?_ | refine WL.yld rfl (Yld.pickFh rfl rfl gdQ rfl) ?_ | refine WL.yld rfl (Yld.pickB rfl rfl rfl rfl) ?_)
    | ((with_reducible refine WL.isN_call ?_); first | refine WL.step rfl (StepTo.callV (us := [.int .i64 a.op, .int .i64 5]) rfl rfl rfl rfl rfl (by kernel_rfl) (fun w _ => hco w) ?_) | refine WL.yld rfl (Yld.lenSlice rfl rfl rfl) ?_ | refine WL.yld rfl (Yld.lenStr rfl rfl rfl) ?_)
    | ((with_reducible refine WL.isT ?_); first | refine WL.skipT rfl rfl rfl rfl gdQ ?_ | refine WL.skipU rfl rfl rfl rfl ?_ | refine WL.runT rfl rfl rfl gdQ ?_)
    | ((with_reducible refine WL.isF ?_); first | refine WL.skipF rfl rfl rfl rfl gdQ ?_ | refine WL.skipU rfl rfl rfl rfl ?_ | refine WL.runF rfl rfl rfl gdQ ?_)
    | ((with_reducible refine WL.isN_alloc ?_); first | refine WL.step rfl (StepTo.allocA rfl rfl rfl rfl (fun _ => ?_)) | refine WL.step rfl (StepTo.alloc1 rfl rfl rfl rfl rfl (fun _ => ?_)))
    | ((with_reducible refine WL.isN_store ?_); first | refine WL.step rfl (StepTo.st1 rfl rfl rfl rfl rfl rfl ?_) | refine WL.step rfl (StepTo.stA rfl rfl rfl rfl rfl rfl rfl ?_) | refine WL.step rfl (StepTo.stR rfl rfl rfl rfl rfl rfl rfl ?_))
    | ((with_reducible refine WL.isN_bslice ?_); first | refine WL.step rfl (StepTo.buildSlice rfl rfl rfl rfl rfl rfl rfl rfl rfl rfl cellsOfQ (fun _ => ?_)))
    | with_reducible refine WC.scope ?_
    | with_reducible refine WC.label ?_
    | with_reducible refine WQ.ngN ?_
    | with_reducible refine WQ.ngR ?_
    | with_reducible refine WQ.ngX ?_
    | with_reducible refine WC.skip ?_
    | with_reducible refine WC.ret ?_
    | with_reducible refine WC.exit ?_
    | with_reducible refine WQ.thenR ?_
    | with_reducible refine WQ.thenX ?_
    | with_reducible refine WQ.blkN ?_
    | with_reducible refine WQ.blkR ?_
    | ((with_reducible refine WQ.blkX ?_ ?_); focus rfl)
    | ((with_reducible refine WQ.blkY ?_ ?_); focus rfl)
    | refine WC.condT rfl ?_
    | refine WC.condF rfl ?_
    | refine WC.condTh rfl gdQ ?_
    | refine WC.condFh rfl gdQ ?_
    | (refine WC.cond rfl (fun hc => ?_) (fun hc => ?_) <;> (try first | (with_reducible replace hc := of_decide_eq_true hc) | (with_reducible replace hc := of_decide_eq_false hc) | (with_reducible replace hc := eqT hc) | (with_reducible replace hc := eqF hc) | (with_reducible replace hc := neT hc) | (with_reducible replace hc := neF hc) | (with_reducible replace hc := noT hc) | (with_reducible replace hc := noF hc)) <;> (try (exfalso; omega))))
      have hoc : o = 0 ∨ o = 1 ∨ o = 2 ∨ o = 3 ∨ o = 4 := by omega
      obtain ⟨k1, hk1, hck1⟩ := spick_n a.size 1500 hao.size.1 hao.size.2 (by omega) (by omega)
      obtain ⟨k2, hk2, hck2⟩ := spick_n a.path 2 hao.path.1 hao.path.2 (by omega) (by omega)
      have hk2p : (k2 : Int) = 0 ∨ (k2 : Int) = 1 := by omega
      rcases hoc with rfl | rfl | rfl | rfl | rfl
      · repeat' (first
    | with_reducible refine WL.nil ?_
    | with_reducible refine WQ.thenN ?_
    | with_reducible refine WQ.code ?_
    | with_reducible refine WC.seq ?_
    | with_reducible refine WC.region ?_
    | ((with_reducible refine WL.isN_move ?_); first | refine WL.yld rfl (Yld.pure rfl nrmQ) ?_)
    | ((with_reducible refine WL.isN_assign ?_); first | refine WL.yld rfl (Yld.pure rfl nrmQ) ?_)
    | ((with_reducible refine WL.isN_bin ?_); first | refine WL.yld rfl (Yld.pure rfl nrmQ) ?_ | refine WL.yld rfl (Yld.rem rfl rfl rfl rfl (by omega) (by omega)) ?_ | refine WL.yld rfl (Yld.quo rfl rfl rfl rfl (by omega) (by omega) nrmQ) ?_ | refine WL.yld rfl (Yld.eqlB rfl rfl rfl rfl) ?_ | refine WL.yld rfl (Yld.neqB rfl rfl rfl rfl) ?_ | refine WL.yld rfl (Yld.eqlA 4 rfl rfl rfl (by kernel_rfl) (by kernel_rfl) rfl rfl) ?_ | refine WL.yld rfl (Yld.neqA 4 rfl rfl rfl (by kernel_rfl) (by kernel_rfl) rfl rfl) ?_ | refine WL.yld rfl (Yld.quoT rfl rfl rfl rfl (by omega) nrmQ) ?_)
    | ((with_reducible refine WL.isN_un ?_); first | refine WL.yld rfl (Yld.pure rfl nrmQ) ?_)
    | ((with_reducible refine WL.isN_extract ?_); first | refine WL.yld rfl (Yld.pure rfl nrmQ) ?_)
    | ((with_reducible refine WL.isN_load ?_); first | refine WL.yld rfl (Yld.load rfl rfl rfl rfl cellQ) ?_ | refine WL.yld rfl (Yld.loadAgg rfl rfl rfl rfl rfl aggQ) ?_)
    | ((with_reducible refine WL.isN_faddr ?_); first | refine WL.yld rfl (Yld.fieldAddr rfl rfl rfl rfl rfl rfl rfl) ?_)
    | ((with_reducible refine WL.isN_iaddr ?_); first | refine WL.yld rfl (Yld.indexS 0 rfl rfl rfl rfl rfl rfl (by omega)) ?_ | refine WL.yld rfl (Yld.indexS 1 rfl rfl rfl rfl rfl rfl (by omega)) ?_ | refine WL.yld rfl (Yld.indexS 2 rfl rfl rfl rfl rfl rfl (by omega)) ?_ | refine WL.yld rfl (Yld.indexS _ rfl rfl rfl rfl rfl rfl (by omega)) ?_ | refine WL.yld rfl (Yld.indexA 0 rfl rfl rfl rfl rfl rfl (by omega)) ?_ | refine WL.yld rfl (Yld.indexA 1 rfl rfl rfl rfl rfl rfl (by omega)) ?_ | refine WL.yld rfl (Yld.indexA _ rfl rfl rfl rfl rfl rfl (by omega)) ?_)
    | ((with_reducible refine WL.isN_conv ?_); first | refine WL.yld rfl (Yld.convInt rfl rfl rfl rfl nrmQ) ?_)
    | ((with_reducible refine WL.isN_build ?_); first | refine WL.yld rfl (Yld.build rfl rfl rfl) ?_)
    | ((with_reducible refine WL.isN_pick ?_); first | refine WL.yld rfl (Yld.pickT rfl rfl rfl) ?_ | refine WL.yld rfl (Yld.pickF rfl rfl rfl) ?_ | refine WL.yld rfl (Yld.pickTh rfl rfl gdQ rfl) ?_ | refine WL.yld rfl (Yld.pickFh rfl rfl gdQ rfl) ?_ | refine WL.yld rfl (Yld.pickB rfl rfl rfl rfl) ?_)
    | ((with_reducible refine WL.isN_call ?_); first | refine WL.yld rfl (Yld.lenSlice rfl rfl rfl) ?_ | refine WL.yld rfl (Yld.lenStr rfl rfl rfl) ?_)
    | ((with_reducible refine WL.isT ?_); first | refine WL.skipT rfl rfl rfl rfl gdQ ?_ | refine WL.skipU rfl rfl rfl rfl ?_ | refine WL.runT rfl rfl rfl gdQ ?_)
    | ((with_reducible refine WL.isF ?_); first | refine WL.skipF rfl rfl rfl rfl gdQ ?_ | refine WL.skipU rfl rfl rfl rfl ?_ | refine WL.runF rfl rfl rfl gdQ ?_)
    | ((with_reducible refine WL.isN_alloc ?_); first | refine WL.step rfl (StepTo.allocA rfl rfl rfl rfl (fun _ => ?_)) | refine WL.step rfl (StepTo.alloc1 rfl rfl rfl rfl rfl (fun _ => ?_)))
    | ((with_reducible refine WL.isN_store ?_); first | refine WL.step rfl (StepTo.st1 rfl rfl rfl rfl rfl rfl ?_) | refine WL.step rfl (StepTo.stA rfl rfl rfl rfl rfl rfl rfl ?_) | refine WL.step rfl (StepTo.stR rfl rfl rfl rfl rfl rfl rfl ?_))
    | ((with_reducible refine WL.isN_bslice ?_); first | refine WL.step rfl (StepTo.buildSlice rfl rfl rfl rfl rfl rfl rfl rfl rfl rfl cellsOfQ (fun _ => ?_)))
    | with_reducible refine WC.scope ?_
    | with_reducible refine WC.label ?_
    | with_reducible refine WQ.ngN ?_
    | with_reducible refine WQ.ngR ?_
    | with_reducible refine WQ.ngX ?_
    | with_reducible refine WC.skip ?_
    | with_reducible refine WC.ret ?_
    | with_reducible refine WC.exit ?_
    | with_reducible refine WQ.thenR ?_
    | with_reducible refine WQ.thenX ?_
    | with_reducible refine WQ.blkN ?_
    | with_reducible refine WQ.blkR ?_
    | ((with_reducible refine WQ.blkX ?_ ?_); focus rfl)
    | ((with_reducible refine WQ.blkY ?_ ?_); focus rfl)
    | refine WC.condT rfl ?_
    | refine WC.condF rfl ?_
    | refine WC.condTh rfl gdQ ?_
    | refine WC.condFh rfl gdQ ?_
    | (refine WC.cond rfl (fun hc => ?_) (fun hc => ?_) <;> (try first | (with_reducible replace hc := of_decide_eq_true hc) | (with_reducible replace hc := of_decide_eq_false hc) | (with_reducible replace hc := eqT hc) | (with_reducible replace hc := eqF hc) | (with_reducible replace hc := neT hc) | (with_reducible replace hc := neF hc) | (with_reducible replace hc := noT hc) | (with_reducible replace hc := noF hc)) <;> (try (exfalso; omega))))
        refine WC.block ?_
        repeat' (first
    | with_reducible refine WL.nil ?_
    | with_reducible refine WQ.thenN ?_
    | with_reducible refine WQ.code ?_
    | with_reducible refine WC.seq ?_
    | with_reducible refine WC.region ?_
    | ((with_reducible refine WL.isN_move ?_); first | refine WL.yld rfl (Yld.pure rfl nrmQ) ?_)
    | ((with_reducible refine WL.isN_assign ?_); first | refine WL.yld rfl (Yld.pure rfl nrmQ) ?_)
    | ((with_reducible refine WL.isN_bin ?_); first | refine WL.yld rfl (Yld.pure rfl nrmQ) ?_ | refine WL.yld rfl (Yld.rem rfl rfl rfl rfl (by omega) (by omega)) ?_ | refine WL.yld rfl (Yld.quo rfl rfl rfl rfl (by omega) (by omega) nrmQ) ?_ | refine WL.yld rfl (Yld.eqlB rfl rfl rfl rfl) ?_ | refine WL.yld rfl (Yld.neqB rfl rfl rfl rfl) ?_ | refine WL.yld rfl (Yld.eqlA 4 rfl rfl rfl (by kernel_rfl) (by kernel_rfl) rfl rfl) ?_ | refine WL.yld rfl (Yld.neqA 4 rfl rfl rfl (by kernel_rfl) (by kernel_rfl) rfl rfl) ?_ | refine WL.yld rfl (Yld.quoT rfl rfl rfl rfl (by omega) nrmQ) ?_)
    | ((with_reducible refine WL.isN_un ?_); first | refine WL.yld rfl (Yld.pure rfl nrmQ) ?_)
    | ((with_reducible refine WL.isN_extract ?_); first | refine WL.yld rfl (Yld.pure rfl nrmQ) ?_)
    | ((with_reducible refine WL.isN_load ?_); first | refine WL.yld rfl (Yld.load rfl rfl rfl rfl cellQ) ?_ | refine WL.yld rfl (Yld.loadAgg rfl rfl rfl rfl rfl aggQ) ?_)
    | ((with_reducible refine WL.isN_faddr ?_); first | refine WL.yld rfl (Yld.fieldAddr rfl rfl rfl rfl rfl rfl rfl) ?_)
    | ((with_reducible refine WL.isN_iaddr ?_); first | refine WL.yld rfl (Yld.indexS 0 rfl rfl rfl rfl rfl rfl (by omega)) ?_ | refine WL.yld rfl (Yld.indexS 1 rfl rfl rfl rfl rfl rfl (by omega)) ?_ | refine WL.yld rfl (Yld.indexS 2 rfl rfl rfl rfl rfl rfl (by omega)) ?_ | refine WL.yld rfl (Yld.indexS _ rfl rfl rfl rfl rfl rfl (by omega)) ?_ | refine WL.yld rfl (Yld.indexA 0 rfl rfl rfl rfl rfl rfl (by omega)) ?_ | refine WL.yld rfl (Yld.indexA 1 rfl rfl rfl rfl rfl rfl (by omega)) ?_ | refine WL.yld rfl (Yld.indexA _ rfl rfl rfl rfl rfl rfl (by omega)) ?_)
    | ((with_reducible refine WL.isN_conv ?_); first | refine WL.yld rfl (Yld.convInt rfl rfl rfl rfl nrmQ) ?_)
    | ((with_reducible refine WL.isN_build ?_); first | refine WL.yld rfl (Yld.build rfl rfl rfl) ?_)
    | ((with_reducible refine WL.isN_pick ?_); first | refine WL.yld rfl (Yld.pickT rfl rfl rfl) ?_ | refine WL.yld rfl (Yld.pickF rfl rfl rfl) ?_ | refine WL.yld rfl (Yld.pickTh rfl rfl gdQ rfl) ?_ | refine WL.yld rfl (Yld.pickFh rfl rfl gdQ rfl) ?_ | refine WL.yld rfl (Yld.pickB rfl rfl rfl rfl) ?_)
    | ((with_reducible refine WL.isN_call ?_); first | refine WL.yld rfl (Yld.lenSlice rfl rfl rfl) ?_ | refine WL.yld rfl (Yld.lenStr rfl rfl rfl) ?_)
    | ((with_reducible refine WL.isT ?_); first | refine WL.skipT rfl rfl rfl rfl gdQ ?_ | refine WL.skipU rfl rfl rfl rfl ?_ | refine WL.runT rfl rfl rfl gdQ ?_)
    | ((with_reducible refine WL.isF ?_); first | refine WL.skipF rfl rfl rfl rfl gdQ ?_ | refine WL.skipU rfl rfl rfl rfl ?_ | refine WL.runF rfl rfl rfl gdQ ?_)
    | ((with_reducible refine WL.isN_alloc ?_); first | refine WL.step rfl (StepTo.allocA rfl rfl rfl rfl (fun _ => ?_)) | refine WL.step rfl (StepTo.alloc1 rfl rfl rfl rfl rfl (fun _ => ?_)))
    | ((with_reducible refine WL.isN_store ?_); first | refine WL.step rfl (StepTo.st1 rfl rfl rfl rfl rfl rfl ?_) | refine WL.step rfl (StepTo.stA rfl rfl rfl rfl rfl rfl rfl ?_) | refine WL.step rfl (StepTo.stR rfl rfl rfl rfl rfl rfl rfl ?_))
    | ((with_reducible refine WL.isN_bslice ?_); first | refine WL.step rfl (StepTo.buildSlice rfl rfl rfl rfl rfl rfl rfl rfl rfl rfl cellsOfQ (fun _ => ?_)))
    | with_reducible refine WC.scope ?_
    | with_reducible refine WC.label ?_
    | with_reducible refine WQ.ngN ?_
    | with_reducible refine WQ.ngR ?_
    | with_reducible refine WQ.ngX ?_
    | with_reducible refine WC.skip ?_
    | with_reducible refine WC.ret ?_
    | with_reducible refine WC.exit ?_
    | with_reducible refine WQ.thenR ?_
    | with_reducible refine WQ.thenX ?_
    | with_reducible refine WQ.blkN ?_
    | with_reducible refine WQ.blkR ?_
    | ((with_reducible refine WQ.blkX ?_ ?_); focus rfl)
    | ((with_reducible refine WQ.blkY ?_ ?_); focus rfl)
    | refine WC.condT rfl ?_
    | refine WC.condF rfl ?_
    | refine WC.condTh rfl gdQ ?_
    | refine WC.condFh rfl gdQ ?_
    | (refine WC.cond rfl (fun hc => ?_) (fun hc => ?_) <;> (try first | (with_reducible replace hc := of_decide_eq_true hc) | (with_reducible replace hc := of_decide_eq_false hc) | (with_reducible replace hc := eqT hc) | (with_reducible replace hc := eqF hc) | (with_reducible replace hc := neT hc) | (with_reducible replace hc := neF hc) | (with_reducible replace hc := noT hc) | (with_reducible replace hc := noF hc)) <;> (try (exfalso; omega))))
        refine WC.cut (fun τ H => ∃ (A2 : Option Addr) (c2 bu : Nat), okA A2 (ps.length + 1) ∧ τ = [(1, .slice (some ⟨ba, oa, none⟩) n c), (6, .pointer (some ⟨bs, 0, none⟩)), (7, .int .u32 next), (8, .int .u32 dn), (9, .int .i64 all), (10, .int .i64 i), (11, .pointer (some ⟨bu, 0, none⟩)), (12, .int .u32 ((cum + ps.length + 1) % 4294967296)), (13, .int .i64 0)] ∧
            H = [.box bu 25 [.int .u32 cum, .slice A2 (ps.length + 1) c2], .row A2 (ps.length + 1) c2 41 7 (flat Pc.cs (ps ++ [⟨(cum + ps.length + 1) % 4294967296, 1 + k1, 1, 0, 1, k2, i⟩])), .box bs 25 [.int .u32 cum, .slice A' ps.length c'], .vw (some ⟨ba, oa, none⟩) n 6 (flat Act6.cs xs)]) ?_ ?_
        refine WC.anyI [0, 2] (by kernel_rfl) ?_
        refine WA.take (idx := [0, 2]) 0 rfl (by kernel_rfl) (by kernel_rfl) (by kernel_rfl) rfl ⟨by decide, rfl⟩ (by first | exact Yld.load rfl rfl rfl rfl cellQ | exact Yld.loadAgg rfl rfl rfl rfl rfl aggQ) ?_
        refine WA.take (idx := [0, 2]) 1 rfl (by kernel_rfl) (by kernel_rfl) (by kernel_rfl) rfl ⟨by decide, rfl⟩ (Yld.pure rfl nrmQ) ?_
        refine WA.take (idx := [0, 2]) 2 rfl (by kernel_rfl) (by kernel_rfl) (by kernel_rfl) rfl ⟨by decide, rfl⟩ (Yld.pure rfl nrmQ) ?_
        refine WA.take (idx := [0, 2]) 3 rfl (by kernel_rfl) (by kernel_rfl) (by kernel_rfl) rfl ⟨by decide, rfl⟩ (by first | exact Yld.indexS 0 rfl rfl rfl rfl rfl rfl (by omega) | exact Yld.indexS 1 rfl rfl rfl rfl rfl rfl (by omega) | exact Yld.indexS 2 rfl rfl rfl rfl rfl rfl (by omega) | exact Yld.indexS _ rfl rfl rfl rfl rfl rfl (by omega) | exact Yld.indexA 0 rfl rfl rfl rfl rfl rfl (by omega) | exact Yld.indexA 1 rfl rfl rfl rfl rfl rfl (by omega) | exact Yld.indexA _ rfl rfl rfl rfl rfl rfl (by omega)) ?_
        refine WA.take (idx := [0, 2]) 4 rfl (by kernel_rfl) (by kernel_rfl) (by kernel_rfl) rfl ⟨by decide, rfl⟩ (Yld.fieldAddr rfl rfl rfl rfl rfl rfl rfl) ?_
        refine WA.take (idx := [0, 2]) 5 rfl (by kernel_rfl) (by kernel_rfl) (by kernel_rfl) rfl ⟨by decide, rfl⟩ (by first | exact Yld.load rfl rfl rfl rfl cellQ | exact Yld.loadAgg rfl rfl rfl rfl rfl aggQ) ?_
        refine WA.take (idx := [0, 2]) 8 rfl (by kernel_rfl) (by kernel_rfl) (by kernel_rfl) rfl ⟨by decide, rfl⟩ (Yld.pure rfl nrmQ) ?_
        refine WA.take (idx := [0, 2]) 9 rfl (by kernel_rfl) (by kernel_rfl) (by kernel_rfl) rfl ⟨by decide, rfl⟩ (Yld.pure rfl nrmQ) ?_
        refine WA.take (idx := [0, 2]) 10 rfl (by kernel_rfl) (by kernel_rfl) (by kernel_rfl) rfl ⟨by decide, rfl⟩ (by first | exact Yld.indexS 0 rfl rfl rfl rfl rfl rfl (by omega) | exact Yld.indexS 1 rfl rfl rfl rfl rfl rfl (by omega) | exact Yld.indexS 2 rfl rfl rfl rfl rfl rfl (by omega) | exact Yld.indexS _ rfl rfl rfl rfl rfl rfl (by omega) | exact Yld.indexA 0 rfl rfl rfl rfl rfl rfl (by omega) | exact Yld.indexA 1 rfl rfl rfl rfl rfl rfl (by omega) | exact Yld.indexA _ rfl rfl rfl rfl rfl rfl (by omega)) ?_
        refine WA.take (idx := [0, 2]) 11 rfl (by kernel_rfl) (by kernel_rfl) (by kernel_rfl) rfl ⟨by decide, rfl⟩ (Yld.fieldAddr rfl rfl rfl rfl rfl rfl rfl) ?_
        refine WA.take (idx := [0, 2]) 12 rfl (by kernel_rfl) (by kernel_rfl) (by kernel_rfl) rfl ⟨by decide, rfl⟩ (by first | exact Yld.load rfl rfl rfl rfl cellQ | exact Yld.loadAgg rfl rfl rfl rfl rfl aggQ) ?_
        refine WA.take (idx := [0, 2]) 14 rfl (by kernel_rfl) (by kernel_rfl) (by kernel_rfl) rfl ⟨by decide, rfl⟩ (Yld.pure rfl nrmQ) ?_
        refine WA.two 6 20 (by kernel_rfl) rfl rfl rfl rfl ?_ ?_
        · refine StepTo.callV (us := [.int .i64 a.size, .int .i64 1500]) rfl rfl rfl rfl rfl (by kernel_rfl) (fun w _ => hck1 w) ⟨⟨[0, 2], by decide, rfl⟩, ?_⟩
          refine WA.take (idx := [0, 2]) 7 rfl (by kernel_rfl) (by kernel_rfl) (by kernel_rfl) rfl ⟨by decide, rfl⟩ (by first | exact Yld.pure rfl nrmQ | exact Yld.rem rfl rfl rfl rfl (by omega) (by omega) | exact Yld.quo rfl rfl rfl rfl (by omega) (by omega) nrmQ | exact Yld.eqlB rfl rfl rfl rfl | exact Yld.neqB rfl rfl rfl rfl | exact Yld.eqlA 4 rfl rfl rfl (by kernel_rfl) (by kernel_rfl) rfl rfl | exact Yld.neqA 4 rfl rfl rfl (by kernel_rfl) (by kernel_rfl) rfl rfl | exact Yld.quoT rfl rfl rfl rfl (by omega) nrmQ) ?_
          refine WA.two 13 20 (by kernel_rfl) rfl rfl rfl rfl ?_ ?_
          · refine StepTo.callV (us := [.int .i64 a.path, .int .i64 2]) rfl rfl rfl rfl rfl (by kernel_rfl) (fun w _ => hck2 w) ⟨⟨[0, 2], by decide, rfl⟩, ?_⟩
            refine WA.two 15 20 (by kernel_rfl) rfl rfl rfl rfl ?_ ?_
            · refine StepTo.callN [] (us := [.agg #[.int .u32 cum, .slice A' ps.length c'], .int .i64 (1 + k1), .int .i64 k2, .int .i64 i]) rfl rfl rfl rfl rfl (by kernel_rfl) (fun w hw => put_yes cum A' ps.length c' ps (1 + k1) k2 i w (hw.lst 1 Pc.cs_len (by omega) rfl) hok (by omega) (by omega) (by omega)) ?_
              rintro v N ⟨A7, c7, hok7, rfl, rfl⟩
              refine ⟨⟨[1, 3], by decide, rfl⟩, ?_⟩
              refine WA.take (idx := [1, 3]) 16 rfl (by kernel_rfl) (by kernel_rfl) (by kernel_rfl) rfl ⟨by decide, rfl⟩ (Yld.pure rfl nrmQ) ?_
              refine WA.take (idx := [1, 3]) 17 rfl (by kernel_rfl) (by kernel_rfl) (by kernel_rfl) rfl ⟨by decide, rfl⟩ (Yld.pure rfl nrmQ) ?_
              refine WA.take (idx := [1, 3]) 18 rfl (by kernel_rfl) (by kernel_rfl) (by kernel_rfl) rfl ⟨by decide, rfl⟩ (Yld.pure rfl nrmQ) ?_
              refine WA.take (idx := [1, 3]) 19 rfl (by kernel_rfl) (by kernel_rfl) (by kernel_rfl) rfl ⟨by decide, rfl⟩ (Yld.pure rfl nrmQ) ?_
              refine WA.one 20 (by kernel_rfl) rfl rfl ?_
              first | refine StepTo.allocA rfl rfl rfl rfl (fun _ => ⟨⟨[2, 4], by decide, rfl⟩, ?_⟩) | refine StepTo.alloc1 rfl rfl rfl rfl rfl (fun _ => ⟨⟨[2, 4], by decide, rfl⟩, ?_⟩)
              refine WA.one 21 (by kernel_rfl) rfl rfl ?_
              first | refine StepTo.storeA 0 rfl rfl rfl rfl rfl rfl rfl rfl overQ setQ ⟨⟨[2, 4], by decide, rfl⟩, ?_⟩ | refine StepTo.store1 0 rfl rfl rfl rfl rfl rfl rfl overQ setQ ⟨⟨[2, 4], by decide, rfl⟩, ?_⟩
              refine WA.take (idx := [2, 4]) 22 rfl (by kernel_rfl) (by kernel_rfl) (by kernel_rfl) rfl ⟨by decide, rfl⟩ (Yld.pure rfl nrmQ) ?_
              refine WA.take (idx := [2, 4]) 23 rfl (by kernel_rfl) (by kernel_rfl) (by kernel_rfl) rfl ⟨by decide, rfl⟩ (Yld.pure rfl nrmQ) ?_
              refine WA.done (by kernel_rfl) ?_
              exact WQ.thenN (WQ.met _ _ [0, 1, 2, 4] (by repeat (first | exact Sub.nil | refine Sub.cons rfl ?_ | refine Sub.consE rfl (int_eq (by omega)) ?_)) ⟨by decide, rfl⟩ ⟨A7, c7, _, hok7, rfl, rfl⟩)
            · first | refine StepTo.allocA rfl rfl rfl rfl (fun _ => ⟨⟨[1, 3], by decide, rfl⟩, ?_⟩) | refine StepTo.alloc1 rfl rfl rfl rfl rfl (fun _ => ⟨⟨[1, 3], by decide, rfl⟩, ?_⟩)
              refine WA.one 15 (by kernel_rfl) rfl rfl ?_
              refine StepTo.callN [] (us := [.agg #[.int .u32 cum, .slice A' ps.length c'], .int .i64 (1 + k1), .int .i64 k2, .int .i64 i]) rfl rfl rfl rfl rfl (by kernel_rfl) (fun w hw => put_yes cum A' ps.length c' ps (1 + k1) k2 i w (hw.lst 2 Pc.cs_len (by omega) rfl) hok (by omega) (by omega) (by omega)) ?_
              rintro v N ⟨A7, c7, hok7, rfl, rfl⟩
              refine ⟨⟨[2, 4], by decide, rfl⟩, ?_⟩
              refine WA.take (idx := [2, 4]) 16 rfl (by kernel_rfl) (by kernel_rfl) (by kernel_rfl) rfl ⟨by decide, rfl⟩ (Yld.pure rfl nrmQ) ?_
              refine WA.take (idx := [2, 4]) 17 rfl (by kernel_rfl) (by kernel_rfl) (by kernel_rfl) rfl ⟨by decide, rfl⟩ (Yld.pure rfl nrmQ) ?_
              refine WA.take (idx := [2, 4]) 18 rfl (by kernel_rfl) (by kernel_rfl) (by kernel_rfl) rfl ⟨by decide, rfl⟩ (Yld.pure rfl nrmQ) ?_
              refine WA.take (idx := [2, 4]) 19 rfl (by kernel_rfl) (by kernel_rfl) (by kernel_rfl) rfl ⟨by decide, rfl⟩ (Yld.pure rfl nrmQ) ?_
              refine WA.one 21 (by kernel_rfl) rfl rfl ?_
              first | refine StepTo.storeA 1 rfl rfl rfl rfl rfl rfl rfl rfl overQ setQ ⟨⟨[2, 4], by decide, rfl⟩, ?_⟩ | refine StepTo.store1 1 rfl rfl rfl rfl rfl rfl rfl overQ setQ ⟨⟨[2, 4], by decide, rfl⟩, ?_⟩
              refine WA.take (idx := [2, 4]) 22 rfl (by kernel_rfl) (by kernel_rfl) (by kernel_rfl) rfl ⟨by decide, rfl⟩ (Yld.pure rfl nrmQ) ?_
              refine WA.take (idx := [2, 4]) 23 rfl (by kernel_rfl) (by kernel_rfl) (by kernel_rfl) rfl ⟨by decide, rfl⟩ (Yld.pure rfl nrmQ) ?_
              refine WA.done (by kernel_rfl) ?_
              exact WQ.thenN (WQ.met _ _ [1, 0, 2, 4] (by repeat (first | exact Sub.nil | refine Sub.cons rfl ?_ | refine Sub.consE rfl (int_eq (by omega)) ?_)) ⟨by decide, rfl⟩ ⟨A7, c7, _, hok7, rfl, rfl⟩)
          · first | refine StepTo.allocA rfl rfl rfl rfl (fun _ => ⟨⟨[1, 3], by decide, rfl⟩, ?_⟩) | refine StepTo.alloc1 rfl rfl rfl rfl rfl (fun _ => ⟨⟨[1, 3], by decide, rfl⟩, ?_⟩)
            refine WA.one 13 (by kernel_rfl) rfl rfl ?_
            refine StepTo.callV (us := [.int .i64 a.path, .int .i64 2]) rfl rfl rfl rfl rfl (by kernel_rfl) (fun w _ => hck2 w) ⟨⟨[1, 3], by decide, rfl⟩, ?_⟩
            refine WA.one 15 (by kernel_rfl) rfl rfl ?_
            refine StepTo.callN [] (us := [.agg #[.int .u32 cum, .slice A' ps.length c'], .int .i64 (1 + k1), .int .i64 k2, .int .i64 i]) rfl rfl rfl rfl rfl (by kernel_rfl) (fun w hw => put_yes cum A' ps.length c' ps (1 + k1) k2 i w (hw.lst 2 Pc.cs_len (by omega) rfl) hok (by omega) (by omega) (by omega)) ?_
            rintro v N ⟨A7, c7, hok7, rfl, rfl⟩
            refine ⟨⟨[2, 4], by decide, rfl⟩, ?_⟩
            refine WA.take (idx := [2, 4]) 16 rfl (by kernel_rfl) (by kernel_rfl) (by kernel_rfl) rfl ⟨by decide, rfl⟩ (Yld.pure rfl nrmQ) ?_
            refine WA.take (idx := [2, 4]) 17 rfl (by kernel_rfl) (by kernel_rfl) (by kernel_rfl) rfl ⟨by decide, rfl⟩ (Yld.pure rfl nrmQ) ?_
            refine WA.take (idx := [2, 4]) 18 rfl (by kernel_rfl) (by kernel_rfl) (by kernel_rfl) rfl ⟨by decide, rfl⟩ (Yld.pure rfl nrmQ) ?_
            refine WA.take (idx := [2, 4]) 19 rfl (by kernel_rfl) (by kernel_rfl) (by kernel_rfl) rfl ⟨by decide, rfl⟩ (Yld.pure rfl nrmQ) ?_
            refine WA.one 21 (by kernel_rfl) rfl rfl ?_
            first | refine StepTo.storeA 1 rfl rfl rfl rfl rfl rfl rfl rfl overQ setQ ⟨⟨[2, 4], by decide, rfl⟩, ?_⟩ | refine StepTo.store1 1 rfl rfl rfl rfl rfl rfl rfl overQ setQ ⟨⟨[2, 4], by decide, rfl⟩, ?_⟩
            refine WA.take (idx := [2, 4]) 22 rfl (by kernel_rfl) (by kernel_rfl) (by kernel_rfl) rfl ⟨by decide, rfl⟩ (Yld.pure rfl nrmQ) ?_
            refine WA.take (idx := [2, 4]) 23 rfl (by kernel_rfl) (by kernel_rfl) (by kernel_rfl) rfl ⟨by decide, rfl⟩ (Yld.pure rfl nrmQ) ?_
            refine WA.done (by kernel_rfl) ?_
            exact WQ.thenN (WQ.met _ _ [1, 0, 2, 4] (by repeat (first | exact Sub.nil | refine Sub.cons rfl ?_ | refine Sub.consE rfl (int_eq (by omega)) ?_)) ⟨by decide, rfl⟩ ⟨A7, c7, _, hok7, rfl, rfl⟩)
        · first | refine StepTo.allocA rfl rfl rfl rfl (fun _ => ⟨⟨[1, 3], by decide, rfl⟩, ?_⟩) | refine StepTo.alloc1 rfl rfl rfl rfl rfl (fun _ => ⟨⟨[1, 3], by decide, rfl⟩, ?_⟩)
          refine WA.one 6 (by kernel_rfl) rfl rfl ?_
          refine StepTo.callV (us := [.int .i64 a.size, .int .i64 1500]) rfl rfl rfl rfl rfl (by kernel_rfl) (fun w _ => hck1 w) ⟨⟨[1, 3], by decide, rfl⟩, ?_⟩
          refine WA.take (idx := [1, 3]) 7 rfl (by kernel_rfl) (by kernel_rfl) (by kernel_rfl) rfl ⟨by decide, rfl⟩ (by first | exact Yld.pure rfl nrmQ | exact Yld.rem rfl rfl rfl rfl (by omega) (by omega) | exact Yld.quo rfl rfl rfl rfl (by omega) (by omega) nrmQ | exact Yld.eqlB rfl rfl rfl rfl | exact Yld.neqB rfl rfl rfl rfl | exact Yld.eqlA 4 rfl rfl rfl (by kernel_rfl) (by kernel_rfl) rfl rfl | exact Yld.neqA 4 rfl rfl rfl (by kernel_rfl) (by kernel_rfl) rfl rfl | exact Yld.quoT rfl rfl rfl rfl (by omega) nrmQ) ?_
          refine WA.one 13 (by kernel_rfl) rfl rfl ?_
          refine StepTo.callV (us := [.int .i64 a.path, .int .i64 2]) rfl rfl rfl rfl rfl (by kernel_rfl) (fun w _ => hck2 w) ⟨⟨[1, 3], by decide, rfl⟩, ?_⟩
          refine WA.one 15 (by kernel_rfl) rfl rfl ?_
          refine StepTo.callN [] (us := [.agg #[.int .u32 cum, .slice A' ps.length c'], .int .i64 (1 + k1), .int .i64 k2, .int .i64 i]) rfl rfl rfl rfl rfl (by kernel_rfl) (fun w hw => put_yes cum A' ps.length c' ps (1 + k1) k2 i w (hw.lst 2 Pc.cs_len (by omega) rfl) hok (by omega) (by omega) (by omega)) ?_
          rintro v N ⟨A7, c7, hok7, rfl, rfl⟩
          refine ⟨⟨[2, 4], by decide, rfl⟩, ?_⟩
          refine WA.take (idx := [2, 4]) 16 rfl (by kernel_rfl) (by kernel_rfl) (by kernel_rfl) rfl ⟨by decide, rfl⟩ (Yld.pure rfl nrmQ) ?_
          refine WA.take (idx := [2, 4]) 17 rfl (by kernel_rfl) (by kernel_rfl) (by kernel_rfl) rfl ⟨by decide, rfl⟩ (Yld.pure rfl nrmQ) ?_
          refine WA.take (idx := [2, 4]) 18 rfl (by kernel_rfl) (by kernel_rfl) (by kernel_rfl) rfl ⟨by decide, rfl⟩ (Yld.pure rfl nrmQ) ?_
          refine WA.take (idx := [2, 4]) 19 rfl (by kernel_rfl) (by kernel_rfl) (by kernel_rfl) rfl ⟨by decide, rfl⟩ (Yld.pure rfl nrmQ) ?_
          refine WA.one 21 (by kernel_rfl) rfl rfl ?_
          first | refine StepTo.storeA 1 rfl rfl rfl rfl rfl rfl rfl rfl overQ setQ ⟨⟨[2, 4], by decide, rfl⟩, ?_⟩ | refine StepTo.store1 1 rfl rfl rfl rfl rfl rfl rfl overQ setQ ⟨⟨[2, 4], by decide, rfl⟩, ?_⟩
          refine WA.take (idx := [2, 4]) 22 rfl (by kernel_rfl) (by kernel_rfl) (by kernel_rfl) rfl ⟨by decide, rfl⟩ (Yld.pure rfl nrmQ) ?_
          refine WA.take (idx := [2, 4]) 23 rfl (by kernel_rfl) (by kernel_rfl) (by kernel_rfl) rfl ⟨by decide, rfl⟩ (Yld.pure rfl nrmQ) ?_
          refine WA.done (by kernel_rfl) ?_
          exact WQ.thenN (WQ.met _ _ [1, 0, 2, 4] (by repeat (first | exact Sub.nil | refine Sub.cons rfl ?_ | refine Sub.consE rfl (int_eq (by omega)) ?_)) ⟨by decide, rfl⟩ ⟨A7, c7, _, hok7, rfl, rfl⟩)
        rintro τ H ⟨A2, c2, bu, hok2, rfl, rfl⟩
        have hP' := hP.put (size := 1 + k1) (path := k2) (now := i) (by omega) (by omega) (by omega) hk2p
        have hpl : (ps ++ [(⟨(cum + ps.length + 1) % 4294967296, 1 + k1, 1, 0, 1, k2, i⟩ : Pc)]).length = ps.length + 1 := by simp
        generalize ps ++ [(⟨(cum + ps.length + 1) % 4294967296, 1 + k1, 1, 0, 1, k2, i⟩ : Pc)] = ps' at hP' hpl ⊢
        rw [← hpl] at hok2 ⊢
        refine WC.capRow 1 rfl fun hcap2 => ?_
        refine WC.rowVw 1 rfl (by omega) ?_
        repeat' (first
    | with_reducible refine WL.nil ?_
    | with_reducible refine WQ.thenN ?_
    | with_reducible refine WQ.code ?_
    | with_reducible refine WC.seq ?_
    | with_reducible refine WC.region ?_
    | ((with_reducible refine WL.isN_move ?_); first | refine WL.yld rfl (Yld.pure rfl nrmQ) ?_)
    | ((with_reducible refine WL.isN_assign ?_); first | refine WL.yld rfl (Yld.pure rfl nrmQ) ?_)
    | ((with_reducible refine WL.isN_bin ?_); first | refine WL.yld rfl (Yld.pure rfl nrmQ) ?_ | refine WL.yld rfl (Yld.rem rfl rfl rfl rfl (by omega) (by omega)) ?_ | refine WL.yld rfl (Yld.quo rfl rfl rfl rfl (by omega) (by omega) nrmQ) ?_ | refine WL.yld rfl (Yld.eqlB rfl rfl rfl rfl) ?_ | refine WL.yld rfl (Yld.neqB rfl rfl rfl rfl) ?_ | refine WL.yld rfl (Yld.eqlA 4 rfl rfl rfl (by kernel_rfl) (by kernel_rfl) rfl rfl) ?_ | refine WL.yld rfl (Yld.neqA 4 rfl rfl rfl (by kernel_rfl) (by kernel_rfl) rfl rfl) ?_ | refine WL.yld rfl (Yld.quoT rfl rfl rfl rfl (by omega) nrmQ) ?_)
    | ((with_reducible refine WL.isN_un ?_); first | refine WL.yld rfl (Yld.pure rfl nrmQ) ?_)
    | ((with_reducible refine WL.isN_extract ?_); first | refine WL.yld rfl (Yld.pure rfl nrmQ) ?_)
    | ((with_reducible refine WL.isN_load ?_); first | refine WL.yld rfl (Yld.load rfl rfl rfl rfl cellQ) ?_ | refine WL.yld rfl (Yld.loadAgg rfl rfl rfl rfl rfl aggQ) ?_)
    | ((with_reducible refine WL.isN_faddr ?_); first | refine WL.yld rfl (Yld.fieldAddr rfl rfl rfl rfl rfl rfl rfl) ?_)
    | ((with_reducible refine WL.isN_iaddr ?_); first | refine WL.yld rfl (Yld.indexS 0 rfl rfl rfl rfl rfl rfl (by omega)) ?_ | refine WL.yld rfl (Yld.indexS 1 rfl rfl rfl rfl rfl rfl (by omega)) ?_ | refine WL.yld rfl (Yld.indexS 2 rfl rfl rfl rfl rfl rfl (by omega)) ?_ | refine WL.yld rfl (Yld.indexS _ rfl rfl rfl rfl rfl rfl (by omega)) ?_ | refine WL.yld rfl (Yld.indexA 0 rfl rfl rfl rfl rfl rfl (by omega)) ?_ | refine WL.yld rfl (Yld.indexA 1 rfl rfl rfl rfl rfl rfl (by omega)) ?_ | refine WL.yld rfl (Yld.indexA _ rfl rfl rfl rfl rfl rfl (by omega)) ?_)
    | ((with_reducible refine WL.isN_conv ?_); first | refine WL.yld rfl (Yld.convInt rfl rfl rfl rfl nrmQ) ?_)
    | ((with_reducible refine WL.isN_build ?_); first | refine WL.yld rfl (Yld.build rfl rfl rfl) ?_)
    | ((with_reducible refine WL.isN_pick ?_); first | refine WL.yld rfl (Yld.pickT rfl rfl rfl) ?_ | refine WL.yld rfl (Yld.pickF rfl rfl rfl) ?_ | refine WL.yld rfl (Yld.pickTh rfl rfl gdQ rfl) ?_ | refine WL.yld rfl (Yld.pickFh rfl rfl gdQ rfl) ?_ | refine WL.yld rfl (Yld.pickB rfl rfl rfl rfl) ?_)
    | ((with_reducible refine WL.isN_call ?_); first | refine WL.step rfl (StepTo.callV (us := [.int .i64 a.size, .int .i64 1500]) rfl rfl rfl rfl rfl (by kernel_rfl) (fun w _ => hck1 w) ?_) | refine WL.yld rfl (Yld.lenSlice rfl rfl rfl) ?_ | refine WL.yld rfl (Yld.lenStr rfl rfl rfl) ?_)
    | ((with_reducible refine WL.isT ?_); first | refine WL.skipT rfl rfl rfl rfl gdQ ?_ | refine WL.skipU rfl rfl rfl rfl ?_ | refine WL.runT rfl rfl rfl gdQ ?_)
    | ((with_reducible refine WL.isF ?_); first | refine WL.skipF rfl rfl rfl rfl gdQ ?_ | refine WL.skipU rfl rfl rfl rfl ?_ | refine WL.runF rfl rfl rfl gdQ ?_)
    | ((with_reducible refine WL.isN_alloc ?_); first | refine WL.step rfl (StepTo.allocA rfl rfl rfl rfl (fun _ => ?_)) | refine WL.step rfl (StepTo.alloc1 rfl rfl rfl rfl rfl (fun _ => ?_)))
    | ((with_reducible refine WL.isN_store ?_); first | refine WL.step rfl (StepTo.st1 rfl rfl rfl rfl rfl rfl ?_) | refine WL.step rfl (StepTo.stA rfl rfl rfl rfl rfl rfl rfl ?_) | refine WL.step rfl (StepTo.stR rfl rfl rfl rfl rfl rfl rfl ?_))
    | ((with_reducible refine WL.isN_bslice ?_); first | refine WL.step rfl (StepTo.buildSlice rfl rfl rfl rfl rfl rfl rfl rfl rfl rfl cellsOfQ (fun _ => ?_)))
    | with_reducible refine WC.block ?_
    | with_reducible refine WC.scope ?_
    | with_reducible refine WC.label ?_
    | with_reducible refine WQ.ngN ?_
    | with_reducible refine WQ.ngR ?_
    | with_reducible refine WQ.ngX ?_
    | with_reducible refine WC.skip ?_
    | with_reducible refine WC.ret ?_
    | with_reducible refine WC.exit ?_
    | with_reducible refine WQ.thenR ?_
    | with_reducible refine WQ.thenX ?_
    | with_reducible refine WQ.blkN ?_
    | with_reducible refine WQ.blkR ?_
    | ((with_reducible refine WQ.blkX ?_ ?_); focus rfl)
    | ((with_reducible refine WQ.blkY ?_ ?_); focus rfl)
    | refine WC.condT rfl ?_
    | refine WC.condF rfl ?_
    | refine WC.condTh rfl gdQ ?_
    | refine WC.condFh rfl gdQ ?_
    | (refine WC.cond rfl (fun hc => ?_) (fun hc => ?_) <;> (try first | (with_reducible replace hc := of_decide_eq_true hc) | (with_reducible replace hc := of_decide_eq_false hc) | (with_reducible replace hc := eqT hc) | (with_reducible replace hc := eqF hc) | (with_reducible replace hc := neT hc) | (with_reducible replace hc := neF hc) | (with_reducible replace hc := noT hc) | (with_reducible replace hc := noF hc)) <;> (try (exfalso; omega))))
        exact WQ.met _ _ [2, 1, 3] (by repeat (first | exact Sub.nil | refine Sub.cons rfl ?_ | refine Sub.consE rfl (int_eq (by omega)) ?_)) ⟨by decide, rfl⟩ ⟨A2, c2, cum, (next + 1) % 4294967296, dn, all + (1 + k1), ps', hP', by omega, hdb, hok2, hcap2, rfl, rfl⟩
      · repeat' (first
    | with_reducible refine WL.nil ?_
    | with_reducible refine WQ.thenN ?_
    | with_reducible refine WQ.code ?_
    | with_reducible refine WC.seq ?_
    | with_reducible refine WC.region ?_
    | ((with_reducible refine WL.isN_move ?_); first | refine WL.yld rfl (Yld.pure rfl nrmQ) ?_)
    | ((with_reducible refine WL.isN_assign ?_); first | refine WL.yld rfl (Yld.pure rfl nrmQ) ?_)
    | ((with_reducible refine WL.isN_bin ?_); first | refine WL.yld rfl (Yld.pure rfl nrmQ) ?_ | refine WL.yld rfl (Yld.rem rfl rfl rfl rfl (by omega) (by omega)) ?_ | refine WL.yld rfl (Yld.quo rfl rfl rfl rfl (by omega) (by omega) nrmQ) ?_ | refine WL.yld rfl (Yld.eqlB rfl rfl rfl rfl) ?_ | refine WL.yld rfl (Yld.neqB rfl rfl rfl rfl) ?_ | refine WL.yld rfl (Yld.eqlA 4 rfl rfl rfl (by kernel_rfl) (by kernel_rfl) rfl rfl) ?_ | refine WL.yld rfl (Yld.neqA 4 rfl rfl rfl (by kernel_rfl) (by kernel_rfl) rfl rfl) ?_ | refine WL.yld rfl (Yld.quoT rfl rfl rfl rfl (by omega) nrmQ) ?_)
    | ((with_reducible refine WL.isN_un ?_); first | refine WL.yld rfl (Yld.pure rfl nrmQ) ?_)
    | ((with_reducible refine WL.isN_extract ?_); first | refine WL.yld rfl (Yld.pure rfl nrmQ) ?_)
    | ((with_reducible refine WL.isN_load ?_); first | refine WL.yld rfl (Yld.load rfl rfl rfl rfl cellQ) ?_ | refine WL.yld rfl (Yld.loadAgg rfl rfl rfl rfl rfl aggQ) ?_)
    | ((with_reducible refine WL.isN_faddr ?_); first | refine WL.yld rfl (Yld.fieldAddr rfl rfl rfl rfl rfl rfl rfl) ?_)
    | ((with_reducible refine WL.isN_iaddr ?_); first | refine WL.yld rfl (Yld.indexS 0 rfl rfl rfl rfl rfl rfl (by omega)) ?_ | refine WL.yld rfl (Yld.indexS 1 rfl rfl rfl rfl rfl rfl (by omega)) ?_ | refine WL.yld rfl (Yld.indexS 2 rfl rfl rfl rfl rfl rfl (by omega)) ?_ | refine WL.yld rfl (Yld.indexS _ rfl rfl rfl rfl rfl rfl (by omega)) ?_ | refine WL.yld rfl (Yld.indexA 0 rfl rfl rfl rfl rfl rfl (by omega)) ?_ | refine WL.yld rfl (Yld.indexA 1 rfl rfl rfl rfl rfl rfl (by omega)) ?_ | refine WL.yld rfl (Yld.indexA _ rfl rfl rfl rfl rfl rfl (by omega)) ?_)
    | ((with_reducible refine WL.isN_conv ?_); first | refine WL.yld rfl (Yld.convInt rfl rfl rfl rfl nrmQ) ?_)
    | ((with_reducible refine WL.isN_build ?_); first | refine WL.yld rfl (Yld.build rfl rfl rfl) ?_)
    | ((with_reducible refine WL.isN_pick ?_); first | refine WL.yld rfl (Yld.pickT rfl rfl rfl) ?_ | refine WL.yld rfl (Yld.pickF rfl rfl rfl) ?_ | refine WL.yld rfl (Yld.pickTh rfl rfl gdQ rfl) ?_ | refine WL.yld rfl (Yld.pickFh rfl rfl gdQ rfl) ?_ | refine WL.yld rfl (Yld.pickB rfl rfl rfl rfl) ?_)
    | ((with_reducible refine WL.isN_call ?_); first | refine WL.yld rfl (Yld.lenSlice rfl rfl rfl) ?_ | refine WL.yld rfl (Yld.lenStr rfl rfl rfl) ?_)
    | ((with_reducible refine WL.isT ?_); first | refine WL.skipT rfl rfl rfl rfl gdQ ?_ | refine WL.skipU rfl rfl rfl rfl ?_ | refine WL.runT rfl rfl rfl gdQ ?_)
    | ((with_reducible refine WL.isF ?_); first | refine WL.skipF rfl rfl rfl rfl gdQ ?_ | refine WL.skipU rfl rfl rfl rfl ?_ | refine WL.runF rfl rfl rfl gdQ ?_)
    | ((with_reducible refine WL.isN_alloc ?_); first | refine WL.step rfl (StepTo.allocA rfl rfl rfl rfl (fun _ => ?_)) | refine WL.step rfl (StepTo.alloc1 rfl rfl rfl rfl rfl (fun _ => ?_)))
    | ((with_reducible refine WL.isN_store ?_); first | refine WL.step rfl (StepTo.st1 rfl rfl rfl rfl rfl rfl ?_) | refine WL.step rfl (StepTo.stA rfl rfl rfl rfl rfl rfl rfl ?_) | refine WL.step rfl (StepTo.stR rfl rfl rfl rfl rfl rfl rfl ?_))
    | ((with_reducible refine WL.isN_bslice ?_); first | refine WL.step rfl (StepTo.buildSlice rfl rfl rfl rfl rfl rfl rfl rfl rfl rfl cellsOfQ (fun _ => ?_)))
    | with_reducible refine WC.scope ?_
    | with_reducible refine WC.label ?_
    | with_reducible refine WQ.ngN ?_
    | with_reducible refine WQ.ngR ?_
    | with_reducible refine WQ.ngX ?_
    | with_reducible refine WC.skip ?_
    | with_reducible refine WC.ret ?_
    | with_reducible refine WC.exit ?_
    | with_reducible refine WQ.thenR ?_
    | with_reducible refine WQ.thenX ?_
    | with_reducible refine WQ.blkN ?_
    | with_reducible refine WQ.blkR ?_
    | ((with_reducible refine WQ.blkX ?_ ?_); focus rfl)
    | ((with_reducible refine WQ.blkY ?_ ?_); focus rfl)
    | refine WC.condT rfl ?_
    | refine WC.condF rfl ?_
    | refine WC.condTh rfl gdQ ?_
    | refine WC.condFh rfl gdQ ?_
    | (refine WC.cond rfl (fun hc => ?_) (fun hc => ?_) <;> (try first | (with_reducible replace hc := of_decide_eq_true hc) | (with_reducible replace hc := of_decide_eq_false hc) | (with_reducible replace hc := eqT hc) | (with_reducible replace hc := eqF hc) | (with_reducible replace hc := neT hc) | (with_reducible replace hc := neF hc) | (with_reducible replace hc := noT hc) | (with_reducible replace hc := noF hc)) <;> (try (exfalso; omega))))
        refine WC.block ?_
        repeat' (first
    | with_reducible refine WL.nil ?_
    | with_reducible refine WQ.thenN ?_
    | with_reducible refine WQ.code ?_
    | with_reducible refine WC.seq ?_
    | with_reducible refine WC.region ?_
    | ((with_reducible refine WL.isN_move ?_); first | refine WL.yld rfl (Yld.pure rfl nrmQ) ?_)
    | ((with_reducible refine WL.isN_assign ?_); first | refine WL.yld rfl (Yld.pure rfl nrmQ) ?_)
    | ((with_reducible refine WL.isN_bin ?_); first | refine WL.yld rfl (Yld.pure rfl nrmQ) ?_ | refine WL.yld rfl (Yld.rem rfl rfl rfl rfl (by omega) (by omega)) ?_ | refine WL.yld rfl (Yld.quo rfl rfl rfl rfl (by omega) (by omega) nrmQ) ?_ | refine WL.yld rfl (Yld.eqlB rfl rfl rfl rfl) ?_ | refine WL.yld rfl (Yld.neqB rfl rfl rfl rfl) ?_ | refine WL.yld rfl (Yld.eqlA 4 rfl rfl rfl (by kernel_rfl) (by kernel_rfl) rfl rfl) ?_ | refine WL.yld rfl (Yld.neqA 4 rfl rfl rfl (by kernel_rfl) (by kernel_rfl) rfl rfl) ?_ | refine WL.yld rfl (Yld.quoT rfl rfl rfl rfl (by omega) nrmQ) ?_)
    | ((with_reducible refine WL.isN_un ?_); first | refine WL.yld rfl (Yld.pure rfl nrmQ) ?_)
    | ((with_reducible refine WL.isN_extract ?_); first | refine WL.yld rfl (Yld.pure rfl nrmQ) ?_)
    | ((with_reducible refine WL.isN_load ?_); first | refine WL.yld rfl (Yld.load rfl rfl rfl rfl cellQ) ?_ | refine WL.yld rfl (Yld.loadAgg rfl rfl rfl rfl rfl aggQ) ?_)
    | ((with_reducible refine WL.isN_faddr ?_); first | refine WL.yld rfl (Yld.fieldAddr rfl rfl rfl rfl rfl rfl rfl) ?_)
    | ((with_reducible refine WL.isN_iaddr ?_); first | refine WL.yld rfl (Yld.indexS 0 rfl rfl rfl rfl rfl rfl (by omega)) ?_ | refine WL.yld rfl (Yld.indexS 1 rfl rfl rfl rfl rfl rfl (by omega)) ?_ | refine WL.yld rfl (Yld.indexS 2 rfl rfl rfl rfl rfl rfl (by omega)) ?_ | refine WL.yld rfl (Yld.indexS _ rfl rfl rfl rfl rfl rfl (by omega)) ?_ | refine WL.yld rfl (Yld.indexA 0 rfl rfl rfl rfl rfl rfl (by omega)) ?_ | refine WL.yld rfl (Yld.indexA 1 rfl rfl rfl rfl rfl rfl (by omega)) ?_ | refine WL.yld rfl (Yld.indexA _ rfl rfl rfl rfl rfl rfl (by omega)) ?_)
    | ((with_reducible refine WL.isN_conv ?_); first | refine WL.yld rfl (Yld.convInt rfl rfl rfl rfl nrmQ) ?_)
    | ((with_reducible refine WL.isN_build ?_); first | refine WL.yld rfl (Yld.build rfl rfl rfl) ?_)
    | ((with_reducible refine WL.isN_pick ?_); first | refine WL.yld rfl (Yld.pickT rfl rfl rfl) ?_ | refine WL.yld rfl (Yld.pickF rfl rfl rfl) ?_ | refine WL.yld rfl (Yld.pickTh rfl rfl gdQ rfl) ?_ | refine WL.yld rfl (Yld.pickFh rfl rfl gdQ rfl) ?_ | refine WL.yld rfl (Yld.pickB rfl rfl rfl rfl) ?_)
    | ((with_reducible refine WL.isN_call ?_); first | refine WL.yld rfl (Yld.lenSlice rfl rfl rfl) ?_ | refine WL.yld rfl (Yld.lenStr rfl rfl rfl) ?_)
    | ((with_reducible refine WL.isT ?_); first | refine WL.skipT rfl rfl rfl rfl gdQ ?_ | refine WL.skipU rfl rfl rfl rfl ?_ | refine WL.runT rfl rfl rfl gdQ ?_)
    | ((with_reducible refine WL.isF ?_); first | refine WL.skipF rfl rfl rfl rfl gdQ ?_ | refine WL.skipU rfl rfl rfl rfl ?_ | refine WL.runF rfl rfl rfl gdQ ?_)
    | ((with_reducible refine WL.isN_alloc ?_); first | refine WL.step rfl (StepTo.allocA rfl rfl rfl rfl (fun _ => ?_)) | refine WL.step rfl (StepTo.alloc1 rfl rfl rfl rfl rfl (fun _ => ?_)))
    | ((with_reducible refine WL.isN_store ?_); first | refine WL.step rfl (StepTo.st1 rfl rfl rfl rfl rfl rfl ?_) | refine WL.step rfl (StepTo.stA rfl rfl rfl rfl rfl rfl rfl ?_) | refine WL.step rfl (StepTo.stR rfl rfl rfl rfl rfl rfl rfl ?_))
    | ((with_reducible refine WL.isN_bslice ?_); first | refine WL.step rfl (StepTo.buildSlice rfl rfl rfl rfl rfl rfl rfl rfl rfl rfl cellsOfQ (fun _ => ?_)))
    | with_reducible refine WC.scope ?_
    | with_reducible refine WC.label ?_
    | with_reducible refine WQ.ngN ?_
    | with_reducible refine WQ.ngR ?_
    | with_reducible refine WQ.ngX ?_
    | with_reducible refine WC.skip ?_
    | with_reducible refine WC.ret ?_
    | with_reducible refine WC.exit ?_
    | with_reducible refine WQ.thenR ?_
    | with_reducible refine WQ.thenX ?_
    | with_reducible refine WQ.blkN ?_
    | with_reducible refine WQ.blkR ?_
    | ((with_reducible refine WQ.blkX ?_ ?_); focus rfl)
    | ((with_reducible refine WQ.blkY ?_ ?_); focus rfl)
    | refine WC.condT rfl ?_
    | refine WC.condF rfl ?_
    | refine WC.condTh rfl gdQ ?_
    | refine WC.condFh rfl gdQ ?_
    | (refine WC.cond rfl (fun hc => ?_) (fun hc => ?_) <;> (try first | (with_reducible replace hc := of_decide_eq_true hc) | (with_reducible replace hc := of_decide_eq_false hc) | (with_reducible replace hc := eqT hc) | (with_reducible replace hc := eqF hc) | (with_reducible replace hc := neT hc) | (with_reducible replace hc := neF hc) | (with_reducible replace hc := noT hc) | (with_reducible replace hc := noF hc)) <;> (try (exfalso; omega))))
        refine WC.cut (fun τ H => ∃ (A2 : Option Addr) (c2 bu : Nat), okA A2 (ps.length + 1) ∧ τ = [(1, .slice (some ⟨ba, oa, none⟩) n c), (6, .pointer (some ⟨bs, 0, none⟩)), (7, .int .u32 next), (8, .int .u32 dn), (9, .int .i64 all), (10, .int .i64 i), (11, .pointer (some ⟨bu, 0, none⟩)), (12, .int .u32 ((cum + ps.length + 1) % 4294967296)), (13, .int .i64 0)] ∧
            H = [.box bu 25 [.int .u32 cum, .slice A2 (ps.length + 1) c2], .row A2 (ps.length + 1) c2 41 7 (flat Pc.cs (ps ++ [⟨(cum + ps.length + 1) % 4294967296, 1 + k1, 1, 0, 1, k2, i⟩])), .box bs 25 [.int .u32 cum, .slice A' ps.length c'], .vw (some ⟨ba, oa, none⟩) n 6 (flat Act6.cs xs)]) ?_ ?_
        refine WC.anyI [0, 2] (by kernel_rfl) ?_
        refine WA.take (idx := [0, 2]) 0 rfl (by kernel_rfl) (by kernel_rfl) (by kernel_rfl) rfl ⟨by decide, rfl⟩ (by first | exact Yld.load rfl rfl rfl rfl cellQ | exact Yld.loadAgg rfl rfl rfl rfl rfl aggQ) ?_
        refine WA.take (idx := [0, 2]) 1 rfl (by kernel_rfl) (by kernel_rfl) (by kernel_rfl) rfl ⟨by decide, rfl⟩ (Yld.pure rfl nrmQ) ?_
        refine WA.take (idx := [0, 2]) 2 rfl (by kernel_rfl) (by kernel_rfl) (by kernel_rfl) rfl ⟨by decide, rfl⟩ (Yld.pure rfl nrmQ) ?_
        refine WA.take (idx := [0, 2]) 3 rfl (by kernel_rfl) (by kernel_rfl) (by kernel_rfl) rfl ⟨by decide, rfl⟩ (by first | exact Yld.indexS 0 rfl rfl rfl rfl rfl rfl (by omega) | exact Yld.indexS 1 rfl rfl rfl rfl rfl rfl (by omega) | exact Yld.indexS 2 rfl rfl rfl rfl rfl rfl (by omega) | exact Yld.indexS _ rfl rfl rfl rfl rfl rfl (by omega) | exact Yld.indexA 0 rfl rfl rfl rfl rfl rfl (by omega) | exact Yld.indexA 1 rfl rfl rfl rfl rfl rfl (by omega) | exact Yld.indexA _ rfl rfl rfl rfl rfl rfl (by omega)) ?_
        refine WA.take (idx := [0, 2]) 4 rfl (by kernel_rfl) (by kernel_rfl) (by kernel_rfl) rfl ⟨by decide, rfl⟩ (Yld.fieldAddr rfl rfl rfl rfl rfl rfl rfl) ?_
        refine WA.take (idx := [0, 2]) 5 rfl (by kernel_rfl) (by kernel_rfl) (by kernel_rfl) rfl ⟨by decide, rfl⟩ (by first | exact Yld.load rfl rfl rfl rfl cellQ | exact Yld.loadAgg rfl rfl rfl rfl rfl aggQ) ?_
        refine WA.take (idx := [0, 2]) 8 rfl (by kernel_rfl) (by kernel_rfl) (by kernel_rfl) rfl ⟨by decide, rfl⟩ (Yld.pure rfl nrmQ) ?_
        refine WA.take (idx := [0, 2]) 9 rfl (by kernel_rfl) (by kernel_rfl) (by kernel_rfl) rfl ⟨by decide, rfl⟩ (Yld.pure rfl nrmQ) ?_
        refine WA.take (idx := [0, 2]) 10 rfl (by kernel_rfl) (by kernel_rfl) (by kernel_rfl) rfl ⟨by decide, rfl⟩ (by first | exact Yld.indexS 0 rfl rfl rfl rfl rfl rfl (by omega) | exact Yld.indexS 1 rfl rfl rfl rfl rfl rfl (by omega) | exact Yld.indexS 2 rfl rfl rfl rfl rfl rfl (by omega) | exact Yld.indexS _ rfl rfl rfl rfl rfl rfl (by omega) | exact Yld.indexA 0 rfl rfl rfl rfl rfl rfl (by omega) | exact Yld.indexA 1 rfl rfl rfl rfl rfl rfl (by omega) | exact Yld.indexA _ rfl rfl rfl rfl rfl rfl (by omega)) ?_
        refine WA.take (idx := [0, 2]) 11 rfl (by kernel_rfl) (by kernel_rfl) (by kernel_rfl) rfl ⟨by decide, rfl⟩ (Yld.fieldAddr rfl rfl rfl rfl rfl rfl rfl) ?_
        refine WA.take (idx := [0, 2]) 12 rfl (by kernel_rfl) (by kernel_rfl) (by kernel_rfl) rfl ⟨by decide, rfl⟩ (by first | exact Yld.load rfl rfl rfl rfl cellQ | exact Yld.loadAgg rfl rfl rfl rfl rfl aggQ) ?_
        refine WA.take (idx := [0, 2]) 14 rfl (by kernel_rfl) (by kernel_rfl) (by kernel_rfl) rfl ⟨by decide, rfl⟩ (Yld.pure rfl nrmQ) ?_
        refine WA.two 6 20 (by kernel_rfl) rfl rfl rfl rfl ?_ ?_
        · refine StepTo.callV (us := [.int .i64 a.size, .int .i64 1500]) rfl rfl rfl rfl rfl (by kernel_rfl) (fun w _ => hck1 w) ⟨⟨[0, 2], by decide, rfl⟩, ?_⟩
          refine WA.take (idx := [0, 2]) 7 rfl (by kernel_rfl) (by kernel_rfl) (by kernel_rfl) rfl ⟨by decide, rfl⟩ (by first | exact Yld.pure rfl nrmQ | exact Yld.rem rfl rfl rfl rfl (by omega) (by omega) | exact Yld.quo rfl rfl rfl rfl (by omega) (by omega) nrmQ | exact Yld.eqlB rfl rfl rfl rfl | exact Yld.neqB rfl rfl rfl rfl | exact Yld.eqlA 4 rfl rfl rfl (by kernel_rfl) (by kernel_rfl) rfl rfl | exact Yld.neqA 4 rfl rfl rfl (by kernel_rfl) (by kernel_rfl) rfl rfl | exact Yld.quoT rfl rfl rfl rfl (by omega) nrmQ) ?_
          refine WA.two 13 20 (by kernel_rfl) rfl rfl rfl rfl ?_ ?_
          · refine StepTo.callV (us := [.int .i64 a.path, .int .i64 2]) rfl rfl rfl rfl rfl (by kernel_rfl) (fun w _ => hck2 w) ⟨⟨[0, 2], by decide, rfl⟩, ?_⟩
            refine WA.two 15 20 (by kernel_rfl) rfl rfl rfl rfl ?_ ?_
            · refine StepTo.callN [] (us := [.agg #[.int .u32 cum, .slice A' ps.length c'], .int .i64 (1 + k1), .int .i64 k2, .int .i64 i]) rfl rfl rfl rfl rfl (by kernel_rfl) (fun w hw => put_yes cum A' ps.length c' ps (1 + k1) k2 i w (hw.lst 1 Pc.cs_len (by omega) rfl) hok (by omega) (by omega) (by omega)) ?_
              rintro v N ⟨A7, c7, hok7, rfl, rfl⟩
              refine ⟨⟨[1, 3], by decide, rfl⟩, ?_⟩
              refine WA.take (idx := [1, 3]) 16 rfl (by kernel_rfl) (by kernel_rfl) (by kernel_rfl) rfl ⟨by decide, rfl⟩ (Yld.pure rfl nrmQ) ?_
              refine WA.take (idx := [1, 3]) 17 rfl (by kernel_rfl) (by kernel_rfl) (by kernel_rfl) rfl ⟨by decide, rfl⟩ (Yld.pure rfl nrmQ) ?_
              refine WA.take (idx := [1, 3]) 18 rfl (by kernel_rfl) (by kernel_rfl) (by kernel_rfl) rfl ⟨by decide, rfl⟩ (Yld.pure rfl nrmQ) ?_
              refine WA.take (idx := [1, 3]) 19 rfl (by kernel_rfl) (by kernel_rfl) (by kernel_rfl) rfl ⟨by decide, rfl⟩ (Yld.pure rfl nrmQ) ?_
              refine WA.one 20 (by kernel_rfl) rfl rfl ?_
              first | refine StepTo.allocA rfl rfl rfl rfl (fun _ => ⟨⟨[2, 4], by decide, rfl⟩, ?_⟩) | refine StepTo.alloc1 rfl rfl rfl rfl rfl (fun _ => ⟨⟨[2, 4], by decide, rfl⟩, ?_⟩)
              refine WA.one 21 (by kernel_rfl) rfl rfl ?_
              first | refine StepTo.storeA 0 rfl rfl rfl rfl rfl rfl rfl rfl overQ setQ ⟨⟨[2, 4], by decide, rfl⟩, ?_⟩ | refine StepTo.store1 0 rfl rfl rfl rfl rfl rfl rfl overQ setQ ⟨⟨[2, 4], by decide, rfl⟩, ?_⟩
              refine WA.take (idx := [2, 4]) 22 rfl (by kernel_rfl) (by kernel_rfl) (by kernel_rfl) rfl ⟨by decide, rfl⟩ (Yld.pure rfl nrmQ) ?_
              refine WA.take (idx := [2, 4]) 23 rfl (by kernel_rfl) (by kernel_rfl) (by kernel_rfl) rfl ⟨by decide, rfl⟩ (Yld.pure rfl nrmQ) ?_
              refine WA.done (by kernel_rfl) ?_
              exact WQ.thenN (WQ.met _ _ [0, 1, 2, 4] (by repeat (first | exact Sub.nil | refine Sub.cons rfl ?_ | refine Sub.consE rfl (int_eq (by omega)) ?_)) ⟨by decide, rfl⟩ ⟨A7, c7, _, hok7, rfl, rfl⟩)
            · first | refine StepTo.allocA rfl rfl rfl rfl (fun _ => ⟨⟨[1, 3], by decide, rfl⟩, ?_⟩) | refine StepTo.alloc1 rfl rfl rfl rfl rfl (fun _ => ⟨⟨[1, 3], by decide, rfl⟩, ?_⟩)
              refine WA.one 15 (by kernel_rfl) rfl rfl ?_
              refine StepTo.callN [] (us := [.agg #[.int .u32 cum, .slice A' ps.length c'], .int .i64 (1 + k1), .int .i64 k2, .int .i64 i]) rfl rfl rfl rfl rfl (by kernel_rfl) (fun w hw => put_yes cum A' ps.length c' ps (1 + k1) k2 i w (hw.lst 2 Pc.cs_len (by omega) rfl) hok (by omega) (by omega) (by omega)) ?_
              rintro v N ⟨A7, c7, hok7, rfl, rfl⟩
              refine ⟨⟨[2, 4], by decide, rfl⟩, ?_⟩
              refine WA.take (idx := [2, 4]) 16 rfl (by kernel_rfl) (by kernel_rfl) (by kernel_rfl) rfl ⟨by decide, rfl⟩ (Yld.pure rfl nrmQ) ?_
              refine WA.take (idx := [2, 4]) 17 rfl (by kernel_rfl) (by kernel_rfl) (by kernel_rfl) rfl ⟨by decide, rfl⟩ (Yld.pure rfl nrmQ) ?_
              refine WA.take (idx := [2, 4]) 18 rfl (by kernel_rfl) (by kernel_rfl) (by kernel_rfl) rfl ⟨by decide, rfl⟩ (Yld.pure rfl nrmQ) ?_
              refine WA.take (idx := [2, 4]) 19 rfl (by kernel_rfl) (by kernel_rfl) (by kernel_rfl) rfl ⟨by decide, rfl⟩ (Yld.pure rfl nrmQ) ?_
              refine WA.one 21 (by kernel_rfl) rfl rfl ?_
              first | refine StepTo.storeA 1 rfl rfl rfl rfl rfl rfl rfl rfl overQ setQ ⟨⟨[2, 4], by decide, rfl⟩, ?_⟩ | refine StepTo.store1 1 rfl rfl rfl rfl rfl rfl rfl overQ setQ ⟨⟨[2, 4], by decide, rfl⟩, ?_⟩
              refine WA.take (idx := [2, 4]) 22 rfl (by kernel_rfl) (by kernel_rfl) (by kernel_rfl) rfl ⟨by decide, rfl⟩ (Yld.pure rfl nrmQ) ?_
              refine WA.take (idx := [2, 4]) 23 rfl (by kernel_rfl) (by kernel_rfl) (by kernel_rfl) rfl ⟨by decide, rfl⟩ (Yld.pure rfl nrmQ) ?_
              refine WA.done (by kernel_rfl) ?_
              exact WQ.thenN (WQ.met _ _ [1, 0, 2, 4] (by repeat (first | exact Sub.nil | refine Sub.cons rfl ?_ | refine Sub.consE rfl (int_eq (by omega)) ?_)) ⟨by decide, rfl⟩ ⟨A7, c7, _, hok7, rfl, rfl⟩)
          · first | refine StepTo.allocA rfl rfl rfl rfl (fun _ => ⟨⟨[1, 3], by decide, rfl⟩, ?_⟩) | refine StepTo.alloc1 rfl rfl rfl rfl rfl (fun _ => ⟨⟨[1, 3], by decide, rfl⟩, ?_⟩)
            refine WA.one 13 (by kernel_rfl) rfl rfl ?_
            refine StepTo.callV (us := [.int .i64 a.path, .int .i64 2]) rfl rfl rfl rfl rfl (by kernel_rfl) (fun w _ => hck2 w) ⟨⟨[1, 3], by decide, rfl⟩, ?_⟩
            refine WA.one 15 (by kernel_rfl) rfl rfl ?_
            refine StepTo.callN [] (us := [.agg #[.int .u32 cum, .slice A' ps.length c'], .int .i64 (1 + k1), .int .i64 k2, .int .i64 i]) rfl rfl rfl rfl rfl (by kernel_rfl) (fun w hw => put_yes cum A' ps.length c' ps (1 + k1) k2 i w (hw.lst 2 Pc.cs_len (by omega) rfl) hok (by omega) (by omega) (by omega)) ?_
            rintro v N ⟨A7, c7, hok7, rfl, rfl⟩
            refine ⟨⟨[2, 4], by decide, rfl⟩, ?_⟩
            refine WA.take (idx := [2, 4]) 16 rfl (by kernel_rfl) (by kernel_rfl) (by kernel_rfl) rfl ⟨by decide, rfl⟩ (Yld.pure rfl nrmQ) ?_
            refine WA.take (idx := [2, 4]) 17 rfl (by kernel_rfl) (by kernel_rfl) (by kernel_rfl) rfl ⟨by decide, rfl⟩ (Yld.pure rfl nrmQ) ?_
            refine WA.take (idx := [2, 4]) 18 rfl (by kernel_rfl) (by kernel_rfl) (by kernel_rfl) rfl ⟨by decide, rfl⟩ (Yld.pure rfl nrmQ) ?_
            refine WA.take (idx := [2, 4]) 19 rfl (by kernel_rfl) (by kernel_rfl) (by kernel_rfl) rfl ⟨by decide, rfl⟩ (Yld.pure rfl nrmQ) ?_
            refine WA.one 21 (by kernel_rfl) rfl rfl ?_
            first | refine StepTo.storeA 1 rfl rfl rfl rfl rfl rfl rfl rfl overQ setQ ⟨⟨[2, 4], by decide, rfl⟩, ?_⟩ | refine StepTo.store1 1 rfl rfl rfl rfl rfl rfl rfl overQ setQ ⟨⟨[2, 4], by decide, rfl⟩, ?_⟩
            refine WA.take (idx := [2, 4]) 22 rfl (by kernel_rfl) (by kernel_rfl) (by kernel_rfl) rfl ⟨by decide, rfl⟩ (Yld.pure rfl nrmQ) ?_
            refine WA.take (idx := [2, 4]) 23 rfl (by kernel_rfl) (by kernel_rfl) (by kernel_rfl) rfl ⟨by decide, rfl⟩ (Yld.pure rfl nrmQ) ?_
            refine WA.done (by kernel_rfl) ?_
            exact WQ.thenN (WQ.met _ _ [1, 0, 2, 4] (by repeat (first | exact Sub.nil | refine Sub.cons rfl ?_ | refine Sub.consE rfl (int_eq (by omega)) ?_)) ⟨by decide, rfl⟩ ⟨A7, c7, _, hok7, rfl, rfl⟩)
        · first | refine StepTo.allocA rfl rfl rfl rfl (fun _ => ⟨⟨[1, 3], by decide, rfl⟩, ?_⟩) | refine StepTo.alloc1 rfl rfl rfl rfl rfl (fun _ => ⟨⟨[1, 3], by decide, rfl⟩, ?_⟩)
          refine WA.one 6 (by kernel_rfl) rfl rfl ?_
          refine StepTo.callV (us := [.int .i64 a.size, .int .i64 1500]) rfl rfl rfl rfl rfl (by kernel_rfl) (fun w _ => hck1 w) ⟨⟨[1, 3], by decide, rfl⟩, ?_⟩
          refine WA.take (idx := [1, 3]) 7 rfl (by kernel_rfl) (by kernel_rfl) (by kernel_rfl) rfl ⟨by decide, rfl⟩ (by first | exact Yld.pure rfl nrmQ | exact Yld.rem rfl rfl rfl rfl (by omega) (by omega) | exact Yld.quo rfl rfl rfl rfl (by omega) (by omega) nrmQ | exact Yld.eqlB rfl rfl rfl rfl | exact Yld.neqB rfl rfl rfl rfl | exact Yld.eqlA 4 rfl rfl rfl (by kernel_rfl) (by kernel_rfl) rfl rfl | exact Yld.neqA 4 rfl rfl rfl (by kernel_rfl) (by kernel_rfl) rfl rfl | exact Yld.quoT rfl rfl rfl rfl (by omega) nrmQ) ?_
          refine WA.one 13 (by kernel_rfl) rfl rfl ?_
          refine StepTo.callV (us := [.int .i64 a.path, .int .i64 2]) rfl rfl rfl rfl rfl (by kernel_rfl) (fun w _ => hck2 w) ⟨⟨[1, 3], by decide, rfl⟩, ?_⟩
          refine WA.one 15 (by kernel_rfl) rfl rfl ?_
          refine StepTo.callN [] (us := [.agg #[.int .u32 cum, .slice A' ps.length c'], .int .i64 (1 + k1), .int .i64 k2, .int .i64 i]) rfl rfl rfl rfl rfl (by kernel_rfl) (fun w hw => put_yes cum A' ps.length c' ps (1 + k1) k2 i w (hw.lst 2 Pc.cs_len (by omega) rfl) hok (by omega) (by omega) (by omega)) ?_
          rintro v N ⟨A7, c7, hok7, rfl, rfl⟩
          refine ⟨⟨[2, 4], by decide, rfl⟩, ?_⟩
          refine WA.take (idx := [2, 4]) 16 rfl (by kernel_rfl) (by kernel_rfl) (by kernel_rfl) rfl ⟨by decide, rfl⟩ (Yld.pure rfl nrmQ) ?_
          refine WA.take (idx := [2, 4]) 17 rfl (by kernel_rfl) (by kernel_rfl) (by kernel_rfl) rfl ⟨by decide, rfl⟩ (Yld.pure rfl nrmQ) ?_
          refine WA.take (idx := [2, 4]) 18 rfl (by kernel_rfl) (by kernel_rfl) (by kernel_rfl) rfl ⟨by decide, rfl⟩ (Yld.pure rfl nrmQ) ?_
          refine WA.take (idx := [2, 4]) 19 rfl (by kernel_rfl) (by kernel_rfl) (by kernel_rfl) rfl ⟨by decide, rfl⟩ (Yld.pure rfl nrmQ) ?_
          refine WA.one 21 (by kernel_rfl) rfl rfl ?_
          first | refine StepTo.storeA 1 rfl rfl rfl rfl rfl rfl rfl rfl overQ setQ ⟨⟨[2, 4], by decide, rfl⟩, ?_⟩ | refine StepTo.store1 1 rfl rfl rfl rfl rfl rfl rfl overQ setQ ⟨⟨[2, 4], by decide, rfl⟩, ?_⟩
          refine WA.take (idx := [2, 4]) 22 rfl (by kernel_rfl) (by kernel_rfl) (by kernel_rfl) rfl ⟨by decide, rfl⟩ (Yld.pure rfl nrmQ) ?_
          refine WA.take (idx := [2, 4]) 23 rfl (by kernel_rfl) (by kernel_rfl) (by kernel_rfl) rfl ⟨by decide, rfl⟩ (Yld.pure rfl nrmQ) ?_
          refine WA.done (by kernel_rfl) ?_
          exact WQ.thenN (WQ.met _ _ [1, 0, 2, 4] (by repeat (first | exact Sub.nil | refine Sub.cons rfl ?_ | refine Sub.consE rfl (int_eq (by omega)) ?_)) ⟨by decide, rfl⟩ ⟨A7, c7, _, hok7, rfl, rfl⟩)
        rintro τ H ⟨A2, c2, bu, hok2, rfl, rfl⟩
        have hP' := hP.put (size := 1 + k1) (path := k2) (now := i) (by omega) (by omega) (by omega) hk2p
        have hpl : (ps ++ [(⟨(cum + ps.length + 1) % 4294967296, 1 + k1, 1, 0, 1, k2, i⟩ : Pc)]).length = ps.length + 1 := by simp
        generalize ps ++ [(⟨(cum + ps.length + 1) % 4294967296, 1 + k1, 1, 0, 1, k2, i⟩ : Pc)] = ps' at hP' hpl ⊢
        rw [← hpl] at hok2 ⊢
        refine WC.capRow 1 rfl fun hcap2 => ?_
        refine WC.rowVw 1 rfl (by omega) ?_
        repeat' (first
    | with_reducible refine WL.nil ?_
    | with_reducible refine WQ.thenN ?_
    | with_reducible refine WQ.code ?_
    | with_reducible refine WC.seq ?_
    | with_reducible refine WC.region ?_
    | ((with_reducible refine WL.isN_move ?_); first | refine WL.yld rfl (Yld.pure rfl nrmQ) ?_)
    | ((with_reducible refine WL.isN_assign ?_); first | refine WL.yld rfl (Yld.pure rfl nrmQ) ?_)
    | ((with_reducible refine WL.isN_bin ?_); first | refine WL.yld rfl (Yld.pure rfl nrmQ) ?_ | refine WL.yld rfl (Yld.rem rfl rfl rfl rfl (by omega) (by omega)) ?_ | refine WL.yld rfl (Yld.quo rfl rfl rfl rfl (by omega) (by omega) nrmQ) ?_ | refine WL.yld rfl (Yld.eqlB rfl rfl rfl rfl) ?_ | refine WL.yld rfl (Yld.neqB rfl rfl rfl rfl) ?_ | refine WL.yld rfl (Yld.eqlA 4 rfl rfl rfl (by kernel_rfl) (by kernel_rfl) rfl rfl) ?_ | refine WL.yld rfl (Yld.neqA 4 rfl rfl rfl (by kernel_rfl) (by kernel_rfl) rfl rfl) ?_ | refine WL.yld rfl (Yld.quoT rfl rfl rfl rfl (by omega) nrmQ) ?_)
    | ((with_reducible refine WL.isN_un ?_); first | refine WL.yld rfl (Yld.pure rfl nrmQ) ?_)
    | ((with_reducible refine WL.isN_extract ?_); first | refine WL.yld rfl (Yld.pure rfl nrmQ) ?_)
    | ((with_reducible refine WL.isN_load ?_); first | refine WL.yld rfl (Yld.load rfl rfl rfl rfl cellQ) ?_ | refine WL.yld rfl (Yld.loadAgg rfl rfl rfl rfl rfl aggQ) ?_)
    | ((with_reducible refine WL.isN_faddr ?_); first | refine WL.yld rfl (Yld.fieldAddr rfl rfl rfl rfl rfl rfl rfl) ?_)
    | ((with_reducible refine WL.isN_iaddr ?_); first | refine WL.yld rfl (Yld.indexS 0 rfl rfl rfl rfl rfl rfl (by omega)) ?_ | refine WL.yld rfl (Yld.indexS 1 rfl rfl rfl rfl rfl rfl (by omega)) ?_ | refine WL.yld rfl (Yld.indexS 2 rfl rfl rfl rfl rfl rfl (by omega)) ?_ | refine WL.yld rfl (Yld.indexS _ rfl rfl rfl rfl rfl rfl (by omega)) ?_ | refine WL.yld rfl (Yld.indexA 0 rfl rfl rfl rfl rfl rfl (by omega)) ?_ | refine WL.yld rfl (Yld.indexA 1 rfl rfl rfl rfl rfl rfl (by omega)) ?_ | refine WL.yld rfl (Yld.indexA _ rfl rfl rfl rfl rfl rfl (by omega)) ?_)
    | ((with_reducible refine WL.isN_conv ?_); first | refine WL.yld rfl (Yld.convInt rfl rfl rfl rfl nrmQ) ?_)
    | ((with_reducible refine WL.isN_build ?_); first | refine WL.yld rfl (Yld.build rfl rfl rfl) ?_)
    | ((with_reducible refine WL.isN_pick ?_); first | refine WL.yld rfl (Yld.pickT rfl rfl rfl) ?_ | refine WL.yld rfl (Yld.pickF rfl rfl rfl) ?_ | refine WL.yld rfl (Yld.pickTh rfl rfl gdQ rfl) ?_ | refine WL.yld rfl (Yld.pickFh rfl rfl gdQ rfl) ?_ | refine WL.yld rfl (Yld.pickB rfl rfl rfl rfl) ?_)
    | ((with_reducible refine WL.isN_call ?_); first | refine WL.step rfl (StepTo.callV (us := [.int .i64 a.size, .int .i64 1500]) rfl rfl rfl rfl rfl (by kernel_rfl) (fun w _ => hck1 w) ?_) | refine WL.yld rfl (Yld.lenSlice rfl rfl rfl) ?_ | refine WL.yld rfl (Yld.lenStr rfl rfl rfl) ?_)
    | ((with_reducible refine WL.isT ?_); first | refine WL.skipT rfl rfl rfl rfl gdQ ?_ | refine WL.skipU rfl rfl rfl rfl ?_ | refine WL.runT rfl rfl rfl gdQ ?_)
    | ((with_reducible refine WL.isF ?_); first | refine WL.skipF rfl rfl rfl rfl gdQ ?_ | refine WL.skipU rfl rfl rfl rfl ?_ | refine WL.runF rfl rfl rfl gdQ ?_)
    | ((with_reducible refine WL.isN_alloc ?_); first | refine WL.step rfl (StepTo.allocA rfl rfl rfl rfl (fun _ => ?_)) | refine WL.step rfl (StepTo.alloc1 rfl rfl rfl rfl rfl (fun _ => ?_)))
    | ((with_reducible refine WL.isN_store ?_); first | refine WL.step rfl (StepTo.st1 rfl rfl rfl rfl rfl rfl ?_) | refine WL.step rfl (StepTo.stA rfl rfl rfl rfl rfl rfl rfl ?_) | refine WL.step rfl (StepTo.stR rfl rfl rfl rfl rfl rfl rfl ?_))
    | ((with_reducible refine WL.isN_bslice ?_); first | refine WL.step rfl (StepTo.buildSlice rfl rfl rfl rfl rfl rfl rfl rfl rfl rfl cellsOfQ (fun _ => ?_)))
    | with_reducible refine WC.block ?_
    | with_reducible refine WC.scope ?_
    | with_reducible refine WC.label ?_
    | with_reducible refine WQ.ngN ?_
    | with_reducible refine WQ.ngR ?_
    | with_reducible refine WQ.ngX ?_
    | with_reducible refine WC.skip ?_
    | with_reducible refine WC.ret ?_
    | with_reducible refine WC.exit ?_
    | with_reducible refine WQ.thenR ?_
    | with_reducible refine WQ.thenX ?_
    | with_reducible refine WQ.blkN ?_
    | with_reducible refine WQ.blkR ?_
    | ((with_reducible refine WQ.blkX ?_ ?_); focus rfl)
    | ((with_reducible refine WQ.blkY ?_ ?_); focus rfl)
    | refine WC.condT rfl ?_
    | refine WC.condF rfl ?_
    | refine WC.condTh rfl gdQ ?_
    | refine WC.condFh rfl gdQ ?_
    | (refine WC.cond rfl (fun hc => ?_) (fun hc => ?_) <;> (try first | (with_reducible replace hc := of_decide_eq_true hc) | (with_reducible replace hc := of_decide_eq_false hc) | (with_reducible replace hc := eqT hc) | (with_reducible replace hc := eqF hc) | (with_reducible replace hc := neT hc) | (with_reducible replace hc := neF hc) | (with_reducible replace hc := noT hc) | (with_reducible replace hc := noF hc)) <;> (try (exfalso; omega))))
        exact WQ.met _ _ [2, 1, 3] (by repeat (first | exact Sub.nil | refine Sub.cons rfl ?_ | refine Sub.consE rfl (int_eq (by omega)) ?_)) ⟨by decide, rfl⟩ ⟨A2, c2, cum, (next + 1) % 4294967296, dn, all + (1 + k1), ps', hP', by omega, hdb, hok2, hcap2, rfl, rfl⟩
      · obtain ⟨u, hu, hcu⟩ := spick_n a.up (ps.length + 1) hao.up.1 hao.up.2 (by omega) (by omega)
        rw [show ((ps.length + 1 : Nat) : Int) = (ps.length : Int) + 1 from by omega] at hcu
        have hn64 := hP.right.2
        repeat' (first
    | with_reducible refine WL.nil ?_
    | with_reducible refine WQ.thenN ?_
    | with_reducible refine WQ.code ?_
    | with_reducible refine WC.seq ?_
    | with_reducible refine WC.region ?_
    | ((with_reducible refine WL.isN_move ?_); first | refine WL.yld rfl (Yld.pure rfl nrmQ) ?_)
    | ((with_reducible refine WL.isN_assign ?_); first | refine WL.yld rfl (Yld.pure rfl nrmQ) ?_)
    | ((with_reducible refine WL.isN_bin ?_); first | refine WL.yld rfl (Yld.pure rfl nrmQ) ?_ | refine WL.yld rfl (Yld.rem rfl rfl rfl rfl (by omega) (by omega)) ?_ | refine WL.yld rfl (Yld.quo rfl rfl rfl rfl (by omega) (by omega) nrmQ) ?_ | refine WL.yld rfl (Yld.eqlB rfl rfl rfl rfl) ?_ | refine WL.yld rfl (Yld.neqB rfl rfl rfl rfl) ?_ | refine WL.yld rfl (Yld.eqlA 4 rfl rfl rfl (by kernel_rfl) (by kernel_rfl) rfl rfl) ?_ | refine WL.yld rfl (Yld.neqA 4 rfl rfl rfl (by kernel_rfl) (by kernel_rfl) rfl rfl) ?_ | refine WL.yld rfl (Yld.quoT rfl rfl rfl rfl (by omega) nrmQ) ?_)
    | ((with_reducible refine WL.isN_un ?_); first | refine WL.yld rfl (Yld.pure rfl nrmQ) ?_)
    | ((with_reducible refine WL.isN_extract ?_); first | refine WL.yld rfl (Yld.pure rfl nrmQ) ?_)
    | ((with_reducible refine WL.isN_load ?_); first | refine WL.yld rfl (Yld.load rfl rfl rfl rfl cellQ) ?_ | refine WL.yld rfl (Yld.loadAgg rfl rfl rfl rfl rfl aggQ) ?_)
    | ((with_reducible refine WL.isN_faddr ?_); first | refine WL.yld rfl (Yld.fieldAddr rfl rfl rfl rfl rfl rfl rfl) ?_)
    | ((with_reducible refine WL.isN_iaddr ?_); first | refine WL.yld rfl (Yld.indexS 0 rfl rfl rfl rfl rfl rfl (by omega)) ?_ | refine WL.yld rfl (Yld.indexS 1 rfl rfl rfl rfl rfl rfl (by omega)) ?_ | refine WL.yld rfl (Yld.indexS 2 rfl rfl rfl rfl rfl rfl (by omega)) ?_ | refine WL.yld rfl (Yld.indexS _ rfl rfl rfl rfl rfl rfl (by omega)) ?_ | refine WL.yld rfl (Yld.indexA 0 rfl rfl rfl rfl rfl rfl (by omega)) ?_ | refine WL.yld rfl (Yld.indexA 1 rfl rfl rfl rfl rfl rfl (by omega)) ?_ | refine WL.yld rfl (Yld.indexA _ rfl rfl rfl rfl rfl rfl (by omega)) ?_)
    | ((with_reducible refine WL.isN_conv ?_); first | refine WL.yld rfl (Yld.convInt rfl rfl rfl rfl nrmQ) ?_)
    | ((with_reducible refine WL.isN_build ?_); first | refine WL.yld rfl (Yld.build rfl rfl rfl) ?_)
    | ((with_reducible refine WL.isN_pick ?_); first | refine WL.yld rfl (Yld.pickT rfl rfl rfl) ?_ | refine WL.yld rfl (Yld.pickF rfl rfl rfl) ?_ | refine WL.yld rfl (Yld.pickTh rfl rfl gdQ rfl) ?_ | refine WL.yld rfl (Yld.pickFh rfl rfl gdQ rfl) ?_ | refine WL.yld rfl (Yld.pickB rfl rfl rfl rfl) ?_)
    | ((with_reducible refine WL.isN_call ?_); first | refine WL.yld rfl (Yld.lenSlice rfl rfl rfl) ?_ | refine WL.yld rfl (Yld.lenStr rfl rfl rfl) ?_)
    | ((with_reducible refine WL.isT ?_); first | refine WL.skipT rfl rfl rfl rfl gdQ ?_ | refine WL.skipU rfl rfl rfl rfl ?_ | refine WL.runT rfl rfl rfl gdQ ?_)
    | ((with_reducible refine WL.isF ?_); first | refine WL.skipF rfl rfl rfl rfl gdQ ?_ | refine WL.skipU rfl rfl rfl rfl ?_ | refine WL.runF rfl rfl rfl gdQ ?_)
    | ((with_reducible refine WL.isN_alloc ?_); first | refine WL.step rfl (StepTo.allocA rfl rfl rfl rfl (fun _ => ?_)) | refine WL.step rfl (StepTo.alloc1 rfl rfl rfl rfl rfl (fun _ => ?_)))
    | ((with_reducible refine WL.isN_store ?_); first | refine WL.step rfl (StepTo.st1 rfl rfl rfl rfl rfl rfl ?_) | refine WL.step rfl (StepTo.stA rfl rfl rfl rfl rfl rfl rfl ?_) | refine WL.step rfl (StepTo.stR rfl rfl rfl rfl rfl rfl rfl ?_))
    | ((with_reducible refine WL.isN_bslice ?_); first | refine WL.step rfl (StepTo.buildSlice rfl rfl rfl rfl rfl rfl rfl rfl rfl rfl cellsOfQ (fun _ => ?_)))
    | with_reducible refine WC.scope ?_
    | with_reducible refine WC.label ?_
    | with_reducible refine WQ.ngN ?_
    | with_reducible refine WQ.ngR ?_
    | with_reducible refine WQ.ngX ?_
    | with_reducible refine WC.skip ?_
    | with_reducible refine WC.ret ?_
    | with_reducible refine WC.exit ?_
    | with_reducible refine WQ.thenR ?_
    | with_reducible refine WQ.thenX ?_
    | with_reducible refine WQ.blkN ?_
    | with_reducible refine WQ.blkR ?_
    | ((with_reducible refine WQ.blkX ?_ ?_); focus rfl)
    | ((with_reducible refine WQ.blkY ?_ ?_); focus rfl)
    | refine WC.condT rfl ?_
    | refine WC.condF rfl ?_
    | refine WC.condTh rfl gdQ ?_
    | refine WC.condFh rfl gdQ ?_
    | (refine WC.cond rfl (fun hc => ?_) (fun hc => ?_) <;> (try first | (with_reducible replace hc := of_decide_eq_true hc) | (with_reducible replace hc := of_decide_eq_false hc) | (with_reducible replace hc := eqT hc) | (with_reducible replace hc := eqF hc) | (with_reducible replace hc := neT hc) | (with_reducible replace hc := neF hc) | (with_reducible replace hc := noT hc) | (with_reducible replace hc := noF hc)) <;> (try (exfalso; omega))))
        refine WC.block ?_
        repeat' (first
    | with_reducible refine WL.nil ?_
    | with_reducible refine WQ.thenN ?_
    | with_reducible refine WQ.code ?_
    | with_reducible refine WC.seq ?_
    | with_reducible refine WC.region ?_
    | ((with_reducible refine WL.isN_move ?_); first | refine WL.yld rfl (Yld.pure rfl nrmQ) ?_)
    | ((with_reducible refine WL.isN_assign ?_); first | refine WL.yld rfl (Yld.pure rfl nrmQ) ?_)
    | ((with_reducible refine WL.isN_bin ?_); first | refine WL.yld rfl (Yld.pure rfl nrmQ) ?_ | refine WL.yld rfl (Yld.rem rfl rfl rfl rfl (by omega) (by omega)) ?_ | refine WL.yld rfl (Yld.quo rfl rfl rfl rfl (by omega) (by omega) nrmQ) ?_ | refine WL.yld rfl (Yld.eqlB rfl rfl rfl rfl) ?_ | refine WL.yld rfl (Yld.neqB rfl rfl rfl rfl) ?_ | refine WL.yld rfl (Yld.eqlA 4 rfl rfl rfl (by kernel_rfl) (by kernel_rfl) rfl rfl) ?_ | refine WL.yld rfl (Yld.neqA 4 rfl rfl rfl (by kernel_rfl) (by kernel_rfl) rfl rfl) ?_ | refine WL.yld rfl (Yld.quoT rfl rfl rfl rfl (by omega) nrmQ) ?_)
    | ((with_reducible refine WL.isN_un ?_); first | refine WL.yld rfl (Yld.pure rfl nrmQ) ?_)
    | ((with_reducible refine WL.isN_extract ?_); first | refine WL.yld rfl (Yld.pure rfl nrmQ) ?_)
    | ((with_reducible refine WL.isN_load ?_); first | refine WL.yld rfl (Yld.load rfl rfl rfl rfl cellQ) ?_ | refine WL.yld rfl (Yld.loadAgg rfl rfl rfl rfl rfl aggQ) ?_)
    | ((with_reducible refine WL.isN_faddr ?_); first | refine WL.yld rfl (Yld.fieldAddr rfl rfl rfl rfl rfl rfl rfl) ?_)
    | ((with_reducible refine WL.isN_iaddr ?_); first | refine WL.yld rfl (Yld.indexS 0 rfl rfl rfl rfl rfl rfl (by omega)) ?_ | refine WL.yld rfl (Yld.indexS 1 rfl rfl rfl rfl rfl rfl (by omega)) ?_ | refine WL.yld rfl (Yld.indexS 2 rfl rfl rfl rfl rfl rfl (by omega)) ?_ | refine WL.yld rfl (Yld.indexS _ rfl rfl rfl rfl rfl rfl (by omega)) ?_ | refine WL.yld rfl (Yld.indexA 0 rfl rfl rfl rfl rfl rfl (by omega)) ?_ | refine WL.yld rfl (Yld.indexA 1 rfl rfl rfl rfl rfl rfl (by omega)) ?_ | refine WL.yld rfl (Yld.indexA _ rfl rfl rfl rfl rfl rfl (by omega)) ?_)
    | ((with_reducible refine WL.isN_conv ?_); first | refine WL.yld rfl (Yld.convInt rfl rfl rfl rfl nrmQ) ?_)
    | ((with_reducible refine WL.isN_build ?_); first | refine WL.yld rfl (Yld.build rfl rfl rfl) ?_)
    | ((with_reducible refine WL.isN_pick ?_); first | refine WL.yld rfl (Yld.pickT rfl rfl rfl) ?_ | refine WL.yld rfl (Yld.pickF rfl rfl rfl) ?_ | refine WL.yld rfl (Yld.pickTh rfl rfl gdQ rfl) ?_ | refine WL.yld rfl (Yld.pickFh rfl rfl gdQ rfl) ?_ | refine WL.yld rfl (Yld.pickB rfl rfl rfl rfl) ?_)
    | ((with_reducible refine WL.isN_call ?_); first | refine WL.yld rfl (Yld.lenSlice rfl rfl rfl) ?_ | refine WL.yld rfl (Yld.lenStr rfl rfl rfl) ?_)
    | ((with_reducible refine WL.isT ?_); first | refine WL.skipT rfl rfl rfl rfl gdQ ?_ | refine WL.skipU rfl rfl rfl rfl ?_ | refine WL.runT rfl rfl rfl gdQ ?_)
    | ((with_reducible refine WL.isF ?_); first | refine WL.skipF rfl rfl rfl rfl gdQ ?_ | refine WL.skipU rfl rfl rfl rfl ?_ | refine WL.runF rfl rfl rfl gdQ ?_)
    | ((with_reducible refine WL.isN_alloc ?_); first | refine WL.step rfl (StepTo.allocA rfl rfl rfl rfl (fun _ => ?_)) | refine WL.step rfl (StepTo.alloc1 rfl rfl rfl rfl rfl (fun _ => ?_)))
    | ((with_reducible refine WL.isN_store ?_); first | refine WL.step rfl (StepTo.st1 rfl rfl rfl rfl rfl rfl ?_) | refine WL.step rfl (StepTo.stA rfl rfl rfl rfl rfl rfl rfl ?_) | refine WL.step rfl (StepTo.stR rfl rfl rfl rfl rfl rfl rfl ?_))
    | ((with_reducible refine WL.isN_bslice ?_); first | refine WL.step rfl (StepTo.buildSlice rfl rfl rfl rfl rfl rfl rfl rfl rfl rfl cellsOfQ (fun _ => ?_)))
    | with_reducible refine WC.scope ?_
    | with_reducible refine WC.label ?_
    | with_reducible refine WQ.ngN ?_
    | with_reducible refine WQ.ngR ?_
    | with_reducible refine WQ.ngX ?_
    | with_reducible refine WC.skip ?_
    | with_reducible refine WC.ret ?_
    | with_reducible refine WC.exit ?_
    | with_reducible refine WQ.thenR ?_
    | with_reducible refine WQ.thenX ?_
    | with_reducible refine WQ.blkN ?_
    | with_reducible refine WQ.blkR ?_
    | ((with_reducible refine WQ.blkX ?_ ?_); focus rfl)
    | ((with_reducible refine WQ.blkY ?_ ?_); focus rfl)
    | refine WC.condT rfl ?_
    | refine WC.condF rfl ?_
    | refine WC.condTh rfl gdQ ?_
    | refine WC.condFh rfl gdQ ?_
    | (refine WC.cond rfl (fun hc => ?_) (fun hc => ?_) <;> (try first | (with_reducible replace hc := of_decide_eq_true hc) | (with_reducible replace hc := of_decide_eq_false hc) | (with_reducible replace hc := eqT hc) | (with_reducible replace hc := eqF hc) | (with_reducible replace hc := neT hc) | (with_reducible replace hc := neF hc) | (with_reducible replace hc := noT hc) | (with_reducible replace hc := noF hc)) <;> (try (exfalso; omega))))
        refine WC.cut (fun τ H => τ = [(1, .slice (some ⟨ba, oa, none⟩) n c), (6, .pointer (some ⟨bs, 0, none⟩)), (7, .int .u32 next), (8, .int .u32 dn), (9, .int .i64 all), (10, .int .i64 i), (14, .int .i64 u)] ∧ H = [.box bs 25 [.int .u32 cum, .slice A' ps.length c'], .vw A' ps.length 7 (flat Pc.cs ps), .vw (some ⟨ba, oa, none⟩) n 6 (flat Act6.cs xs)]) ?_ ?_
        · repeat' (first
    | with_reducible refine WL.nil ?_
    | with_reducible refine WQ.thenN ?_
    | with_reducible refine WQ.code ?_
    | with_reducible refine WC.seq ?_
    | with_reducible refine WC.region ?_
    | ((with_reducible refine WL.isN_move ?_); first | refine WL.yld rfl (Yld.pure rfl nrmQ) ?_)
    | ((with_reducible refine WK.isN_move ?_); first | refine WK.yld rfl (Yld.pure rfl nrmQ) ?_)
    | ((with_reducible refine WL.isN_assign ?_); first | refine WL.yld rfl (Yld.pure rfl nrmQ) ?_)
    | ((with_reducible refine WK.isN_assign ?_); first | refine WK.yld rfl (Yld.pure rfl nrmQ) ?_)
    | ((with_reducible refine WL.isN_bin ?_); first | refine WL.yld rfl (Yld.pure rfl nrmQ) ?_ | refine WL.yld rfl (Yld.rem rfl rfl rfl rfl (by omega) (by omega)) ?_ | refine WL.yld rfl (Yld.quo rfl rfl rfl rfl (by omega) (by omega) nrmQ) ?_ | refine WL.yld rfl (Yld.eqlB rfl rfl rfl rfl) ?_ | refine WL.yld rfl (Yld.neqB rfl rfl rfl rfl) ?_ | refine WL.yld rfl (Yld.eqlA 4 rfl rfl rfl (by kernel_rfl) (by kernel_rfl) rfl rfl) ?_ | refine WL.yld rfl (Yld.neqA 4 rfl rfl rfl (by kernel_rfl) (by kernel_rfl) rfl rfl) ?_ | refine WL.yld rfl (Yld.quoT rfl rfl rfl rfl (by omega) nrmQ) ?_)
    | ((with_reducible refine WK.isN_bin ?_); first | refine WK.yld rfl (Yld.pure rfl nrmQ) ?_ | refine WK.yld rfl (Yld.rem rfl rfl rfl rfl (by omega) (by omega)) ?_ | refine WK.yld rfl (Yld.quo rfl rfl rfl rfl (by omega) (by omega) nrmQ) ?_ | refine WK.yld rfl (Yld.eqlB rfl rfl rfl rfl) ?_ | refine WK.yld rfl (Yld.neqB rfl rfl rfl rfl) ?_ | refine WK.yld rfl (Yld.eqlA 4 rfl rfl rfl (by kernel_rfl) (by kernel_rfl) rfl rfl) ?_ | refine WK.yld rfl (Yld.neqA 4 rfl rfl rfl (by kernel_rfl) (by kernel_rfl) rfl rfl) ?_ | refine WK.yld rfl (Yld.quoT rfl rfl rfl rfl (by omega) nrmQ) ?_)
    | ((with_reducible refine WL.isN_un ?_); first | refine WL.yld rfl (Yld.pure rfl nrmQ) ?_)
    | ((with_reducible refine WK.isN_un ?_); first | refine WK.yld rfl (Yld.pure rfl nrmQ) ?_)
    | ((with_reducible refine WL.isN_extract ?_); first | refine WL.yld rfl (Yld.pure rfl nrmQ) ?_)
    | ((with_reducible refine WK.isN_extract ?_); first | refine WK.yld rfl (Yld.pure rfl nrmQ) ?_)
    | ((with_reducible refine WL.isN_load ?_); first | refine WL.yld rfl (Yld.load rfl rfl rfl rfl cellQ) ?_ | refine WL.yld rfl (Yld.loadAgg rfl rfl rfl rfl rfl aggQ) ?_)
    | ((with_reducible refine WK.isN_load ?_); first | refine WK.yld rfl (Yld.load rfl rfl rfl rfl cellQ) ?_ | refine WK.yld rfl (Yld.loadAgg rfl rfl rfl rfl rfl aggQ) ?_)
    | ((with_reducible refine WL.isN_faddr ?_); first | refine WL.yld rfl (Yld.fieldAddr rfl rfl rfl rfl rfl rfl rfl) ?_)
    | ((with_reducible refine WK.isN_faddr ?_); first | refine WK.yld rfl (Yld.fieldAddr rfl rfl rfl rfl rfl rfl rfl) ?_)
    | ((with_reducible refine WL.isN_iaddr ?_); first | refine WL.yld rfl (Yld.indexS 0 rfl rfl rfl rfl rfl rfl (by omega)) ?_ | refine WL.yld rfl (Yld.indexS 1 rfl rfl rfl rfl rfl rfl (by omega)) ?_ | refine WL.yld rfl (Yld.indexS 2 rfl rfl rfl rfl rfl rfl (by omega)) ?_ | refine WL.yld rfl (Yld.indexS _ rfl rfl rfl rfl rfl rfl (by omega)) ?_ | refine WL.yld rfl (Yld.indexA 0 rfl rfl rfl rfl rfl rfl (by omega)) ?_ | refine WL.yld rfl (Yld.indexA 1 rfl rfl rfl rfl rfl rfl (by omega)) ?_ | refine WL.yld rfl (Yld.indexA _ rfl rfl rfl rfl rfl rfl (by omega)) ?_)
    | ((with_reducible refine WK.isN_iaddr ?_); first | refine WK.yld rfl (Yld.indexS 0 rfl rfl rfl rfl rfl rfl (by omega)) ?_ | refine WK.yld rfl (Yld.indexS 1 rfl rfl rfl rfl rfl rfl (by omega)) ?_ | refine WK.yld rfl (Yld.indexS 2 rfl rfl rfl rfl rfl rfl (by omega)) ?_ | refine WK.yld rfl (Yld.indexS _ rfl rfl rfl rfl rfl rfl (by omega)) ?_ | refine WK.yld rfl (Yld.indexA 0 rfl rfl rfl rfl rfl rfl (by omega)) ?_ | refine WK.yld rfl (Yld.indexA 1 rfl rfl rfl rfl rfl rfl (by omega)) ?_ | refine WK.yld rfl (Yld.indexA _ rfl rfl rfl rfl rfl rfl (by omega)) ?_)
    | ((with_reducible refine WL.isN_conv ?_); first | refine WL.yld rfl (Yld.convInt rfl rfl rfl rfl nrmQ) ?_)
    | ((with_reducible refine WK.isN_conv ?_); first | refine WK.yld rfl (Yld.convInt rfl rfl rfl rfl nrmQ) ?_)
    | ((with_reducible refine WL.isN_build ?_); first | refine WL.yld rfl (Yld.build rfl rfl rfl) ?_)
    | ((with_reducible refine WK.isN_build ?_); first | refine WK.yld rfl (Yld.build rfl rfl rfl) ?_)
    | ((with_reducible refine WL.isN_pick ?_); first | refine WL.yld rfl (Yld.pickT rfl rfl rfl) ?_ | refine WL.yld rfl (Yld.pickF rfl rfl rfl) ?_ | refine WL.yld rfl (Yld.pickTh rfl rfl gdQ rfl) ?_ | refine WL.yld rfl (Yld.pickFh rfl rfl gdQ rfl) ?_ | refine WL.yld rfl (Yld.pickB rfl rfl rfl rfl) ?_)
    | ((with_reducible refine WK.isN_pick ?_); first | refine WK.yld rfl (Yld.pickT rfl rfl rfl) ?_ | refine WK.yld rfl (Yld.pickF rfl rfl rfl) ?_ | refine WK.yld rfl (Yld.pickTh rfl rfl gdQ rfl) ?_ | refine WK.yld rfl (Yld.pickFh rfl rfl gdQ rfl) ?_ | refine WK.yld rfl (Yld.pickB rfl rfl rfl rfl) ?_)
    | ((with_reducible refine WL.isN_call ?_); first | refine WK.step rfl (Qui.call (us := [.int .i64 a.up, .int .i64 (ps.length + 1)]) rfl rfl rfl (by kernel_rfl) (fun w _ => hcu w)) ?_ | refine WL.yld rfl (Yld.lenSlice rfl rfl rfl) ?_ | refine WL.yld rfl (Yld.lenStr rfl rfl rfl) ?_)
    | ((with_reducible refine WK.isN_call ?_); first | refine WK.step rfl (Qui.call (us := [.int .i64 a.up, .int .i64 (ps.length + 1)]) rfl rfl rfl (by kernel_rfl) (fun w _ => hcu w)) ?_ | refine WK.yld rfl (Yld.lenSlice rfl rfl rfl) ?_ | refine WK.yld rfl (Yld.lenStr rfl rfl rfl) ?_)
    | ((with_reducible refine WK.isT ?_); first | refine WK.skipT rfl rfl rfl rfl gdQ ?_ | refine WK.skipU rfl rfl rfl rfl ?_ | refine WK.runT rfl rfl rfl gdQ ?_)
    | ((with_reducible refine WK.isF ?_); first | refine WK.skipF rfl rfl rfl rfl gdQ ?_ | refine WK.skipU rfl rfl rfl rfl ?_ | refine WK.runF rfl rfl rfl gdQ ?_)
    | ((with_reducible refine WL.isN_alloc ?_); first | refine WL.step rfl (StepTo.allocA rfl rfl rfl rfl (fun _ => ?_)) | refine WL.step rfl (StepTo.alloc1 rfl rfl rfl rfl rfl (fun _ => ?_)))
    | ((with_reducible refine WL.isN_store ?_); first | refine WL.step rfl (StepTo.st1 rfl rfl rfl rfl rfl rfl ?_) | refine WL.step rfl (StepTo.stA rfl rfl rfl rfl rfl rfl rfl ?_) | refine WL.step rfl (StepTo.stR rfl rfl rfl rfl rfl rfl rfl ?_))
    | ((with_reducible refine WL.isN_bslice ?_); first | refine WL.step rfl (StepTo.buildSlice rfl rfl rfl rfl rfl rfl rfl rfl rfl rfl cellsOfQ (fun _ => ?_)))
    | with_reducible refine WC.block ?_
    | with_reducible refine WC.scope ?_
    | with_reducible refine WC.label ?_
    | with_reducible refine WQ.ngN ?_
    | with_reducible refine WQ.ngR ?_
    | with_reducible refine WQ.ngX ?_
    | with_reducible refine WC.skip ?_
    | with_reducible refine WC.ret ?_
    | with_reducible refine WC.exit ?_
    | with_reducible refine WQ.thenR ?_
    | with_reducible refine WQ.thenX ?_
    | with_reducible refine WQ.blkN ?_
    | with_reducible refine WQ.blkR ?_
    | ((with_reducible refine WQ.blkX ?_ ?_); focus rfl)
    | ((with_reducible refine WQ.blkY ?_ ?_); focus rfl)
    | (refine WC.quiet (i := 22) (by kernel_rfl) (by kernel_rfl) ?_)
    | with_reducible refine WK.nil ?_
    | refine WC.condT rfl ?_
    | refine WC.condF rfl ?_
    | refine WC.condTh rfl gdQ ?_
    | refine WC.condFh rfl gdQ ?_
    | (refine WC.cond rfl (fun hc => ?_) (fun hc => ?_) <;> (try first | (with_reducible replace hc := of_decide_eq_true hc) | (with_reducible replace hc := of_decide_eq_false hc) | (with_reducible replace hc := eqT hc) | (with_reducible replace hc := eqF hc) | (with_reducible replace hc := neT hc) | (with_reducible replace hc := neF hc) | (with_reducible replace hc := noT hc) | (with_reducible replace hc := noF hc)) <;> (try (exfalso; omega))))
          exact WQ.met _ _ [0, 1, 2] (by repeat (first | exact Sub.nil | refine Sub.cons rfl ?_ | refine Sub.consE rfl (int_eq (by omega)) ?_)) ⟨by decide, rfl⟩ ⟨rfl, rfl⟩
        rintro τ H ⟨rfl, rfl⟩
        refine WC.seqCut (fun τ H => τ = [(1, .slice (some ⟨ba, oa, none⟩) n c), (6, .pointer (some ⟨bs, 0, none⟩)), (7, .int .u32 next), (8, .int .u32 dn), (9, .int .i64 all), (10, .int .i64 i), (14, .int .i64 u), (15, .int .i64 (ps.length - u))] ∧ H = [.box bs 25 [.int .u32 cum, .slice A' ps.length c'], .vw A' ps.length 7 (flat Pc.cs ps), .vw (some ⟨ba, oa, none⟩) n 6 (flat Act6.cs xs)]) ?_ ?_
        · repeat' (first
    | with_reducible refine WL.nil ?_
    | with_reducible refine WQ.thenN ?_
    | with_reducible refine WQ.code ?_
    | with_reducible refine WC.seq ?_
    | with_reducible refine WC.region ?_
    | ((with_reducible refine WL.isN_move ?_); first | refine WL.yld rfl (Yld.pure rfl nrmQ) ?_)
    | ((with_reducible refine WL.isN_assign ?_); first | refine WL.yld rfl (Yld.pure rfl nrmQ) ?_)
    | ((with_reducible refine WL.isN_bin ?_); first | refine WL.yld rfl (Yld.pure rfl nrmQ) ?_ | refine WL.yld rfl (Yld.rem rfl rfl rfl rfl (by omega) (by omega)) ?_ | refine WL.yld rfl (Yld.quo rfl rfl rfl rfl (by omega) (by omega) nrmQ) ?_ | refine WL.yld rfl (Yld.eqlB rfl rfl rfl rfl) ?_ | refine WL.yld rfl (Yld.neqB rfl rfl rfl rfl) ?_ | refine WL.yld rfl (Yld.eqlA 4 rfl rfl rfl (by kernel_rfl) (by kernel_rfl) rfl rfl) ?_ | refine WL.yld rfl (Yld.neqA 4 rfl rfl rfl (by kernel_rfl) (by kernel_rfl) rfl rfl) ?_ | refine WL.yld rfl (Yld.quoT rfl rfl rfl rfl (by omega) nrmQ) ?_)
    | ((with_reducible refine WL.isN_un ?_); first | refine WL.yld rfl (Yld.pure rfl nrmQ) ?_)
    | ((with_reducible refine WL.isN_extract ?_); first | refine WL.yld rfl (Yld.pure rfl nrmQ) ?_)
    | ((with_reducible refine WL.isN_load ?_); first | refine WL.yld rfl (Yld.load rfl rfl rfl rfl cellQ) ?_ | refine WL.yld rfl (Yld.loadAgg rfl rfl rfl rfl rfl aggQ) ?_)
    | ((with_reducible refine WL.isN_faddr ?_); first | refine WL.yld rfl (Yld.fieldAddr rfl rfl rfl rfl rfl rfl rfl) ?_)
    | ((with_reducible refine WL.isN_iaddr ?_); first | refine WL.yld rfl (Yld.indexS 0 rfl rfl rfl rfl rfl rfl (by omega)) ?_ | refine WL.yld rfl (Yld.indexS 1 rfl rfl rfl rfl rfl rfl (by omega)) ?_ | refine WL.yld rfl (Yld.indexS 2 rfl rfl rfl rfl rfl rfl (by omega)) ?_ | refine WL.yld rfl (Yld.indexS _ rfl rfl rfl rfl rfl rfl (by omega)) ?_ | refine WL.yld rfl (Yld.indexA 0 rfl rfl rfl rfl rfl rfl (by omega)) ?_ | refine WL.yld rfl (Yld.indexA 1 rfl rfl rfl rfl rfl rfl (by omega)) ?_ | refine WL.yld rfl (Yld.indexA _ rfl rfl rfl rfl rfl rfl (by omega)) ?_)
    | ((with_reducible refine WL.isN_conv ?_); first | refine WL.yld rfl (Yld.convInt rfl rfl rfl rfl nrmQ) ?_)
    | ((with_reducible refine WL.isN_build ?_); first | refine WL.yld rfl (Yld.build rfl rfl rfl) ?_)
    | ((with_reducible refine WL.isN_pick ?_); first | refine WL.yld rfl (Yld.pickT rfl rfl rfl) ?_ | refine WL.yld rfl (Yld.pickF rfl rfl rfl) ?_ | refine WL.yld rfl (Yld.pickTh rfl rfl gdQ rfl) ?_ | refine WL.yld rfl (Yld.pickFh rfl rfl gdQ rfl) ?_ | refine WL.yld rfl (Yld.pickB rfl rfl rfl rfl) ?_)
    | ((with_reducible refine WL.isN_call ?_); first | refine WL.yld rfl (Yld.lenSlice rfl rfl rfl) ?_ | refine WL.yld rfl (Yld.lenStr rfl rfl rfl) ?_)
    | ((with_reducible refine WL.isN_alloc ?_); first | refine WL.step rfl (StepTo.allocA rfl rfl rfl rfl (fun _ => ?_)) | refine WL.step rfl (StepTo.alloc1 rfl rfl rfl rfl rfl (fun _ => ?_)))
    | ((with_reducible refine WL.isN_store ?_); first | refine WL.step rfl (StepTo.st1 rfl rfl rfl rfl rfl rfl ?_) | refine WL.step rfl (StepTo.stA rfl rfl rfl rfl rfl rfl rfl ?_) | refine WL.step rfl (StepTo.stR rfl rfl rfl rfl rfl rfl rfl ?_))
    | ((with_reducible refine WL.isN_bslice ?_); first | refine WL.step rfl (StepTo.buildSlice rfl rfl rfl rfl rfl rfl rfl rfl rfl rfl cellsOfQ (fun _ => ?_)))
    | with_reducible refine WC.block ?_
    | with_reducible refine WC.scope ?_
    | with_reducible refine WC.label ?_
    | with_reducible refine WQ.ngN ?_
    | with_reducible refine WQ.ngR ?_
    | with_reducible refine WQ.ngX ?_
    | with_reducible refine WC.skip ?_
    | with_reducible refine WC.ret ?_
    | with_reducible refine WC.exit ?_
    | with_reducible refine WQ.thenR ?_
    | with_reducible refine WQ.thenX ?_
    | with_reducible refine WQ.blkN ?_
    | with_reducible refine WQ.blkR ?_
    | ((with_reducible refine WQ.blkX ?_ ?_); focus rfl)
    | ((with_reducible refine WQ.blkY ?_ ?_); focus rfl)
    | refine WC.condT rfl ?_
    | refine WC.condF rfl ?_
    | refine WC.condTh rfl gdQ ?_
    | refine WC.condFh rfl gdQ ?_
    | (refine WC.cond rfl (fun hc => ?_) (fun hc => ?_) <;> (try first | (with_reducible replace hc := of_decide_eq_true hc) | (with_reducible replace hc := of_decide_eq_false hc) | (with_reducible replace hc := eqT hc) | (with_reducible replace hc := eqF hc) | (with_reducible replace hc := neT hc) | (with_reducible replace hc := neF hc) | (with_reducible replace hc := noT hc) | (with_reducible replace hc := noF hc)) <;> (try (exfalso; omega))))
          exact WQ.met _ _ [0, 1, 2] (by repeat (first | exact Sub.nil | refine Sub.cons rfl ?_ | refine Sub.consE rfl (int_eq (by omega)) ?_)) ⟨by decide, rfl⟩ ⟨rfl, rfl⟩
        rintro τ H ⟨rfl, rfl⟩
        refine WC.seqCut (fun τ H => τ = [(1, .slice (some ⟨ba, oa, none⟩) n c), (6, .pointer (some ⟨bs, 0, none⟩)), (7, .int .u32 next), (8, .int .u32 dn), (9, .int .i64 all), (10, .int .i64 i), (14, .int .i64 u), (15, .int .i64 (ps.length - u)), (16, .slice none 0 0)] ∧ H = [.box bs 25 [.int .u32 cum, .slice A' ps.length c'], .vw A' ps.length 7 (flat Pc.cs ps), .vw (some ⟨ba, oa, none⟩) n 6 (flat Act6.cs xs)]) ?_ ?_
        · repeat' (first
    | with_reducible refine WL.nil ?_
    | with_reducible refine WQ.thenN ?_
    | with_reducible refine WQ.code ?_
    | with_reducible refine WC.seq ?_
    | with_reducible refine WC.region ?_
    | ((with_reducible refine WL.isN_move ?_); first | refine WL.yld rfl (Yld.pure rfl nrmQ) ?_)
    | ((with_reducible refine WL.isN_assign ?_); first | refine WL.yld rfl (Yld.pure rfl nrmQ) ?_)
    | ((with_reducible refine WL.isN_bin ?_); first | refine WL.yld rfl (Yld.pure rfl nrmQ) ?_ | refine WL.yld rfl (Yld.rem rfl rfl rfl rfl (by omega) (by omega)) ?_ | refine WL.yld rfl (Yld.quo rfl rfl rfl rfl (by omega) (by omega) nrmQ) ?_ | refine WL.yld rfl (Yld.eqlB rfl rfl rfl rfl) ?_ | refine WL.yld rfl (Yld.neqB rfl rfl rfl rfl) ?_ | refine WL.yld rfl (Yld.eqlA 4 rfl rfl rfl (by kernel_rfl) (by kernel_rfl) rfl rfl) ?_ | refine WL.yld rfl (Yld.neqA 4 rfl rfl rfl (by kernel_rfl) (by kernel_rfl) rfl rfl) ?_ | refine WL.yld rfl (Yld.quoT rfl rfl rfl rfl (by omega) nrmQ) ?_)
    | ((with_reducible refine WL.isN_un ?_); first | refine WL.yld rfl (Yld.pure rfl nrmQ) ?_)
    | ((with_reducible refine WL.isN_extract ?_); first | refine WL.yld rfl (Yld.pure rfl nrmQ) ?_)
    | ((with_reducible refine WL.isN_load ?_); first | refine WL.yld rfl (Yld.load rfl rfl rfl rfl cellQ) ?_ | refine WL.yld rfl (Yld.loadAgg rfl rfl rfl rfl rfl aggQ) ?_)
    | ((with_reducible refine WL.isN_faddr ?_); first | refine WL.yld rfl (Yld.fieldAddr rfl rfl rfl rfl rfl rfl rfl) ?_)
    | ((with_reducible refine WL.isN_iaddr ?_); first | refine WL.yld rfl (Yld.indexS 0 rfl rfl rfl rfl rfl rfl (by omega)) ?_ | refine WL.yld rfl (Yld.indexS 1 rfl rfl rfl rfl rfl rfl (by omega)) ?_ | refine WL.yld rfl (Yld.indexS 2 rfl rfl rfl rfl rfl rfl (by omega)) ?_ | refine WL.yld rfl (Yld.indexS _ rfl rfl rfl rfl rfl rfl (by omega)) ?_ | refine WL.yld rfl (Yld.indexA 0 rfl rfl rfl rfl rfl rfl (by omega)) ?_ | refine WL.yld rfl (Yld.indexA 1 rfl rfl rfl rfl rfl rfl (by omega)) ?_ | refine WL.yld rfl (Yld.indexA _ rfl rfl rfl rfl rfl rfl (by omega)) ?_)
    | ((with_reducible refine WL.isN_conv ?_); first | refine WL.yld rfl (Yld.convInt rfl rfl rfl rfl nrmQ) ?_)
    | ((with_reducible refine WL.isN_build ?_); first | refine WL.yld rfl (Yld.build rfl rfl rfl) ?_)
    | ((with_reducible refine WL.isN_pick ?_); first | refine WL.yld rfl (Yld.pickT rfl rfl rfl) ?_ | refine WL.yld rfl (Yld.pickF rfl rfl rfl) ?_ | refine WL.yld rfl (Yld.pickTh rfl rfl gdQ rfl) ?_ | refine WL.yld rfl (Yld.pickFh rfl rfl gdQ rfl) ?_ | refine WL.yld rfl (Yld.pickB rfl rfl rfl rfl) ?_)
    | ((with_reducible refine WL.isN_call ?_); first | refine WL.yld rfl (Yld.lenSlice rfl rfl rfl) ?_ | refine WL.yld rfl (Yld.lenStr rfl rfl rfl) ?_)
    | ((with_reducible refine WL.isN_alloc ?_); first | refine WL.step rfl (StepTo.allocA rfl rfl rfl rfl (fun _ => ?_)) | refine WL.step rfl (StepTo.alloc1 rfl rfl rfl rfl rfl (fun _ => ?_)))
    | ((with_reducible refine WL.isN_store ?_); first | refine WL.step rfl (StepTo.st1 rfl rfl rfl rfl rfl rfl ?_) | refine WL.step rfl (StepTo.stA rfl rfl rfl rfl rfl rfl rfl ?_) | refine WL.step rfl (StepTo.stR rfl rfl rfl rfl rfl rfl rfl ?_))
    | ((with_reducible refine WL.isN_bslice ?_); first | refine WL.step rfl (StepTo.buildSlice rfl rfl rfl rfl rfl rfl rfl rfl rfl rfl cellsOfQ (fun _ => ?_)))
    | with_reducible refine WC.block ?_
    | with_reducible refine WC.scope ?_
    | with_reducible refine WC.label ?_
    | with_reducible refine WQ.ngN ?_
    | with_reducible refine WQ.ngR ?_
    | with_reducible refine WQ.ngX ?_
    | with_reducible refine WC.skip ?_
    | with_reducible refine WC.ret ?_
    | with_reducible refine WC.exit ?_
    | with_reducible refine WQ.thenR ?_
    | with_reducible refine WQ.thenX ?_
    | with_reducible refine WQ.blkN ?_
    | with_reducible refine WQ.blkR ?_
    | ((with_reducible refine WQ.blkX ?_ ?_); focus rfl)
    | ((with_reducible refine WQ.blkY ?_ ?_); focus rfl)
    | refine WC.condT rfl ?_
    | refine WC.condF rfl ?_
    | refine WC.condTh rfl gdQ ?_
    | refine WC.condFh rfl gdQ ?_
    | (refine WC.cond rfl (fun hc => ?_) (fun hc => ?_) <;> (try first | (with_reducible replace hc := of_decide_eq_true hc) | (with_reducible replace hc := of_decide_eq_false hc) | (with_reducible replace hc := eqT hc) | (with_reducible replace hc := eqF hc) | (with_reducible replace hc := neT hc) | (with_reducible replace hc := neF hc) | (with_reducible replace hc := noT hc) | (with_reducible replace hc := noF hc)) <;> (try (exfalso; omega))))
          exact WQ.met _ _ [0, 1, 2] (by repeat (first | exact Sub.nil | refine Sub.cons rfl ?_ | refine Sub.consE rfl (int_eq (by omega)) ?_)) ⟨by decide, rfl⟩ ⟨rfl, rfl⟩
        rintro τ H ⟨rfl, rfl⟩
        refine WC.nilVw 2 ?_
        refine WC.seqCut (fun τ H => ∃ (Ag : Option Addr) (ng cg : Nat) (gs : List (Nat × Nat)), (∀ g ∈ gs, okG (ps.length - u) g) ∧ (∀ g ∈ gs, g.1 ≤ 65535 ∧ g.2 ≤ 65535) ∧ ng ≤ 1 ∧
            τ = [(1, .slice (some ⟨ba, oa, none⟩) n c), (6, .pointer (some ⟨bs, 0, none⟩)), (7, .int .u32 next), (8, .int .u32 dn), (9, .int .i64 all), (10, .int .i64 i), (14, .int .i64 u), (16, .slice Ag ng cg)] ∧ H = [.vw Ag ng 2 (flat gC gs), .box bs 25 [.int .u32 cum, .slice A' ps.length c'], .vw A' ps.length 7 (flat Pc.cs ps), .vw (some ⟨ba, oa, none⟩) n 6 (flat Act6.cs xs)]) ?_ ?_
        · by_cases hlu : u < ps.length
          · obtain ⟨p1, hp1, hcp1⟩ := spick_n a.frm (ps.length - u) hao.frm.1 hao.frm.2 (by omega) (by omega)
            rw [show ((ps.length - u : Nat) : Int) = (ps.length : Int) - u from by omega] at hcp1
            obtain ⟨p2, hp2, hcp2⟩ := spick_n a.to (ps.length - u - p1) hao.to.1 hao.to.2 (by omega) (by omega)
            rw [show ((ps.length - u - p1 : Nat) : Int) = (ps.length : Int) - u - (1 + p1) + 1 from by omega] at hcp2
            repeat' (first
    | with_reducible refine WL.nil ?_
    | with_reducible refine WQ.thenN ?_
    | with_reducible refine WQ.code ?_
    | with_reducible refine WC.seq ?_
    | with_reducible refine WC.region ?_
    | ((with_reducible refine WL.isN_move ?_); first | refine WL.yld rfl (Yld.pure rfl nrmQ) ?_)
    | ((with_reducible refine WL.isN_assign ?_); first | refine WL.yld rfl (Yld.pure rfl nrmQ) ?_)
    | ((with_reducible refine WL.isN_bin ?_); first | refine WL.yld rfl (Yld.pure rfl nrmQ) ?_ | refine WL.yld rfl (Yld.rem rfl rfl rfl rfl (by omega) (by omega)) ?_ | refine WL.yld rfl (Yld.quo rfl rfl rfl rfl (by omega) (by omega) nrmQ) ?_ | refine WL.yld rfl (Yld.eqlB rfl rfl rfl rfl) ?_ | refine WL.yld rfl (Yld.neqB rfl rfl rfl rfl) ?_ | refine WL.yld rfl (Yld.eqlA 4 rfl rfl rfl (by kernel_rfl) (by kernel_rfl) rfl rfl) ?_ | refine WL.yld rfl (Yld.neqA 4 rfl rfl rfl (by kernel_rfl) (by kernel_rfl) rfl rfl) ?_ | refine WL.yld rfl (Yld.quoT rfl rfl rfl rfl (by omega) nrmQ) ?_)
    | ((with_reducible refine WL.isN_un ?_); first | refine WL.yld rfl (Yld.pure rfl nrmQ) ?_)
    | ((with_reducible refine WL.isN_extract ?_); first | refine WL.yld rfl (Yld.pure rfl nrmQ) ?_)
    | ((with_reducible refine WL.isN_load ?_); first | refine WL.yld rfl (Yld.load rfl rfl rfl rfl cellQ) ?_ | refine WL.yld rfl (Yld.loadAgg rfl rfl rfl rfl rfl aggQ) ?_)
    | ((with_reducible refine WL.isN_faddr ?_); first | refine WL.yld rfl (Yld.fieldAddr rfl rfl rfl rfl rfl rfl rfl) ?_)
    | ((with_reducible refine WL.isN_iaddr ?_); first | refine WL.yld rfl (Yld.indexS 0 rfl rfl rfl rfl rfl rfl (by omega)) ?_ | refine WL.yld rfl (Yld.indexS 1 rfl rfl rfl rfl rfl rfl (by omega)) ?_ | refine WL.yld rfl (Yld.indexS 2 rfl rfl rfl rfl rfl rfl (by omega)) ?_ | refine WL.yld rfl (Yld.indexS _ rfl rfl rfl rfl rfl rfl (by omega)) ?_ | refine WL.yld rfl (Yld.indexA 0 rfl rfl rfl rfl rfl rfl (by omega)) ?_ | refine WL.yld rfl (Yld.indexA 1 rfl rfl rfl rfl rfl rfl (by omega)) ?_ | refine WL.yld rfl (Yld.indexA _ rfl rfl rfl rfl rfl rfl (by omega)) ?_)
    | ((with_reducible refine WL.isN_conv ?_); first | refine WL.yld rfl (Yld.convInt rfl rfl rfl rfl nrmQ) ?_)
    | ((with_reducible refine WL.isN_build ?_); first | refine WL.yld rfl (Yld.build (cells := #[.int .u16 ((1 + p1 : Nat) : Int), .int .u16 ((1 + p1 + p2 : Nat) : Int)]) rfl rfl (by kernel_rfl)) ?_ | refine WL.yld rfl (Yld.build rfl rfl rfl) ?_)
    | ((with_reducible refine WL.isN_pick ?_); first | refine WL.yld rfl (Yld.pickT rfl rfl rfl) ?_ | refine WL.yld rfl (Yld.pickF rfl rfl rfl) ?_ | refine WL.yld rfl (Yld.pickTh rfl rfl gdQ rfl) ?_ | refine WL.yld rfl (Yld.pickFh rfl rfl gdQ rfl) ?_ | refine WL.yld rfl (Yld.pickB rfl rfl rfl rfl) ?_)
    | ((with_reducible refine WL.isN_call ?_); first | refine WL.step rfl (StepTo.callV (us := [.int .i64 a.frm, .int .i64 ((ps.length : Int) - u)]) rfl rfl rfl rfl rfl (by kernel_rfl) (fun w _ => hcp1 w) ?_) | refine WL.step rfl (StepTo.callV (us := [.int .i64 a.to, .int .i64 ((ps.length : Int) - u - (1 + p1) + 1)]) rfl rfl rfl rfl rfl (by kernel_rfl) (fun w _ => hcp2 w) ?_) | refine WL.yld rfl (Yld.lenSlice rfl rfl rfl) ?_ | refine WL.yld rfl (Yld.lenStr rfl rfl rfl) ?_)
    | ((with_reducible refine WL.isT ?_); first | refine WL.skipT rfl rfl rfl rfl gdQ ?_ | refine WL.skipU rfl rfl rfl rfl ?_ | refine WL.runT rfl rfl rfl gdQ ?_)
    | ((with_reducible refine WL.isF ?_); first | refine WL.skipF rfl rfl rfl rfl gdQ ?_ | refine WL.skipU rfl rfl rfl rfl ?_ | refine WL.runF rfl rfl rfl gdQ ?_)
    | ((with_reducible refine WL.isN_alloc ?_); first | refine WL.step rfl (StepTo.allocA rfl rfl rfl rfl (fun _ => ?_)) | refine WL.step rfl (StepTo.alloc1 rfl rfl rfl rfl rfl (fun _ => ?_)))
    | ((with_reducible refine WL.isN_store ?_); first | refine WL.step rfl (StepTo.st1 rfl rfl rfl rfl rfl rfl ?_) | refine WL.step rfl (StepTo.stA rfl rfl rfl rfl rfl rfl rfl ?_) | refine WL.step rfl (StepTo.stR rfl rfl rfl rfl rfl rfl rfl ?_))
    | ((with_reducible refine WL.isN_bslice ?_); first | refine WL.step rfl (StepTo.buildSlice rfl rfl rfl rfl rfl rfl rfl rfl rfl rfl cellsOfQ (fun _ => ?_)))
    | with_reducible refine WC.block ?_
    | with_reducible refine WC.scope ?_
    | with_reducible refine WC.label ?_
    | with_reducible refine WQ.ngN ?_
    | with_reducible refine WQ.ngR ?_
    | with_reducible refine WQ.ngX ?_
    | with_reducible refine WC.skip ?_
    | with_reducible refine WC.ret ?_
    | with_reducible refine WC.exit ?_
    | with_reducible refine WQ.thenR ?_
    | with_reducible refine WQ.thenX ?_
    | with_reducible refine WQ.blkN ?_
    | with_reducible refine WQ.blkR ?_
    | ((with_reducible refine WQ.blkX ?_ ?_); focus rfl)
    | ((with_reducible refine WQ.blkY ?_ ?_); focus rfl)
    | refine WC.condT rfl ?_
    | refine WC.condF rfl ?_
    | refine WC.condTh rfl gdQ ?_
    | refine WC.condFh rfl gdQ ?_
    | (refine WC.cond rfl (fun hc => ?_) (fun hc => ?_) <;> (try first | (with_reducible replace hc := of_decide_eq_true hc) | (with_reducible replace hc := of_decide_eq_false hc) | (with_reducible replace hc := eqT hc) | (with_reducible replace hc := eqF hc) | (with_reducible replace hc := neT hc) | (with_reducible replace hc := neF hc) | (with_reducible replace hc := noT hc) | (with_reducible replace hc := noF hc)) <;> (try (exfalso; omega))))
            refine WQ.boxVw 0 1 2 rfl rfl (by omega) ?_
            exact WQ.met _ _ [0, 2, 3, 4] (by repeat (first | exact Sub.nil | refine Sub.cons rfl ?_ | refine Sub.consE rfl (int_eq (by omega)) ?_)) ⟨by decide, rfl⟩ ⟨_, 1, 1, [(1 + p1, 1 + p1 + p2)], by
              intro g hg; simp at hg; subst hg; exact ⟨by simp only; omega, by simp only; omega, by simp only; omega⟩, by
              intro g hg; simp at hg; subst hg; exact ⟨by simp only; omega, by simp only; omega⟩, by omega, rfl, rfl⟩
          · repeat' (first
    | with_reducible refine WL.nil ?_
    | with_reducible refine WQ.thenN ?_
    | with_reducible refine WQ.code ?_
    | with_reducible refine WC.seq ?_
    | with_reducible refine WC.region ?_
    | ((with_reducible refine WL.isN_move ?_); first | refine WL.yld rfl (Yld.pure rfl nrmQ) ?_)
    | ((with_reducible refine WL.isN_assign ?_); first | refine WL.yld rfl (Yld.pure rfl nrmQ) ?_)
    | ((with_reducible refine WL.isN_bin ?_); first | refine WL.yld rfl (Yld.pure rfl nrmQ) ?_ | refine WL.yld rfl (Yld.rem rfl rfl rfl rfl (by omega) (by omega)) ?_ | refine WL.yld rfl (Yld.quo rfl rfl rfl rfl (by omega) (by omega) nrmQ) ?_ | refine WL.yld rfl (Yld.eqlB rfl rfl rfl rfl) ?_ | refine WL.yld rfl (Yld.neqB rfl rfl rfl rfl) ?_ | refine WL.yld rfl (Yld.eqlA 4 rfl rfl rfl (by kernel_rfl) (by kernel_rfl) rfl rfl) ?_ | refine WL.yld rfl (Yld.neqA 4 rfl rfl rfl (by kernel_rfl) (by kernel_rfl) rfl rfl) ?_ | refine WL.yld rfl (Yld.quoT rfl rfl rfl rfl (by omega) nrmQ) ?_)
    | ((with_reducible refine WL.isN_un ?_); first | refine WL.yld rfl (Yld.pure rfl nrmQ) ?_)
    | ((with_reducible refine WL.isN_extract ?_); first | refine WL.yld rfl (Yld.pure rfl nrmQ) ?_)
    | ((with_reducible refine WL.isN_load ?_); first | refine WL.yld rfl (Yld.load rfl rfl rfl rfl cellQ) ?_ | refine WL.yld rfl (Yld.loadAgg rfl rfl rfl rfl rfl aggQ) ?_)
    | ((with_reducible refine WL.isN_faddr ?_); first | refine WL.yld rfl (Yld.fieldAddr rfl rfl rfl rfl rfl rfl rfl) ?_)
    | ((with_reducible refine WL.isN_iaddr ?_); first | refine WL.yld rfl (Yld.indexS 0 rfl rfl rfl rfl rfl rfl (by omega)) ?_ | refine WL.yld rfl (Yld.indexS 1 rfl rfl rfl rfl rfl rfl (by omega)) ?_ | refine WL.yld rfl (Yld.indexS 2 rfl rfl rfl rfl rfl rfl (by omega)) ?_ | refine WL.yld rfl (Yld.indexS _ rfl rfl rfl rfl rfl rfl (by omega)) ?_ | refine WL.yld rfl (Yld.indexA 0 rfl rfl rfl rfl rfl rfl (by omega)) ?_ | refine WL.yld rfl (Yld.indexA 1 rfl rfl rfl rfl rfl rfl (by omega)) ?_ | refine WL.yld rfl (Yld.indexA _ rfl rfl rfl rfl rfl rfl (by omega)) ?_)
    | ((with_reducible refine WL.isN_conv ?_); first | refine WL.yld rfl (Yld.convInt rfl rfl rfl rfl nrmQ) ?_)
    | ((with_reducible refine WL.isN_build ?_); first | refine WL.yld rfl (Yld.build rfl rfl rfl) ?_)
    | ((with_reducible refine WL.isN_pick ?_); first | refine WL.yld rfl (Yld.pickT rfl rfl rfl) ?_ | refine WL.yld rfl (Yld.pickF rfl rfl rfl) ?_ | refine WL.yld rfl (Yld.pickTh rfl rfl gdQ rfl) ?_ | refine WL.yld rfl (Yld.pickFh rfl rfl gdQ rfl) ?_ | refine WL.yld rfl (Yld.pickB rfl rfl rfl rfl) ?_)
    | ((with_reducible refine WL.isN_call ?_); first | refine WL.yld rfl (Yld.lenSlice rfl rfl rfl) ?_ | refine WL.yld rfl (Yld.lenStr rfl rfl rfl) ?_)
    | ((with_reducible refine WL.isT ?_); first | refine WL.skipT rfl rfl rfl rfl gdQ ?_ | refine WL.skipU rfl rfl rfl rfl ?_ | refine WL.runT rfl rfl rfl gdQ ?_)
    | ((with_reducible refine WL.isF ?_); first | refine WL.skipF rfl rfl rfl rfl gdQ ?_ | refine WL.skipU rfl rfl rfl rfl ?_ | refine WL.runF rfl rfl rfl gdQ ?_)
    | ((with_reducible refine WL.isN_alloc ?_); first | refine WL.step rfl (StepTo.allocA rfl rfl rfl rfl (fun _ => ?_)) | refine WL.step rfl (StepTo.alloc1 rfl rfl rfl rfl rfl (fun _ => ?_)))
    | ((with_reducible refine WL.isN_store ?_); first | refine WL.step rfl (StepTo.st1 rfl rfl rfl rfl rfl rfl ?_) | refine WL.step rfl (StepTo.stA rfl rfl rfl rfl rfl rfl rfl ?_) | refine WL.step rfl (StepTo.stR rfl rfl rfl rfl rfl rfl rfl ?_))
    | ((with_reducible refine WL.isN_bslice ?_); first | refine WL.step rfl (StepTo.buildSlice rfl rfl rfl rfl rfl rfl rfl rfl rfl rfl cellsOfQ (fun _ => ?_)))
    | with_reducible refine WC.block ?_
    | with_reducible refine WC.scope ?_
    | with_reducible refine WC.label ?_
    | with_reducible refine WQ.ngN ?_
    | with_reducible refine WQ.ngR ?_
    | with_reducible refine WQ.ngX ?_
    | with_reducible refine WC.skip ?_
    | with_reducible refine WC.ret ?_
    | with_reducible refine WC.exit ?_
    | with_reducible refine WQ.thenR ?_
    | with_reducible refine WQ.thenX ?_
    | with_reducible refine WQ.blkN ?_
    | with_reducible refine WQ.blkR ?_
    | ((with_reducible refine WQ.blkX ?_ ?_); focus rfl)
    | ((with_reducible refine WQ.blkY ?_ ?_); focus rfl)
    | refine WC.condT rfl ?_
    | refine WC.condF rfl ?_
    | refine WC.condTh rfl gdQ ?_
    | refine WC.condFh rfl gdQ ?_
    | (refine WC.cond rfl (fun hc => ?_) (fun hc => ?_) <;> (try first | (with_reducible replace hc := of_decide_eq_true hc) | (with_reducible replace hc := of_decide_eq_false hc) | (with_reducible replace hc := eqT hc) | (with_reducible replace hc := eqF hc) | (with_reducible replace hc := neT hc) | (with_reducible replace hc := neF hc) | (with_reducible replace hc := noT hc) | (with_reducible replace hc := noF hc)) <;> (try (exfalso; omega))))
            exact WQ.met _ _ [0, 1, 2, 3] (by repeat (first | exact Sub.nil | refine Sub.cons rfl ?_ | refine Sub.consE rfl (int_eq (by omega)) ?_)) ⟨by decide, rfl⟩ ⟨none, 0, 0, [], by simp, by simp, by omega, rfl, rfl⟩
        rintro τ H ⟨Ag, ng, cg, gs, hog, hg65, hng, rfl, rfl⟩
        have hup : upF ((cum + u) % 4294967296) cum = u := by unfold upF; omega
        have hul : u ≤ ps.length := by omega
        repeat' (first
    | with_reducible refine WL.nil ?_
    | with_reducible refine WQ.thenN ?_
    | with_reducible refine WQ.code ?_
    | with_reducible refine WC.seq ?_
    | with_reducible refine WC.region ?_
    | ((with_reducible refine WL.isN_move ?_); first | refine WL.yld rfl (Yld.pure rfl nrmQ) ?_)
    | ((with_reducible refine WL.isN_assign ?_); first | refine WL.yld rfl (Yld.pure rfl nrmQ) ?_)
    | ((with_reducible refine WL.isN_bin ?_); first | refine WL.yld rfl (Yld.pure rfl nrmQ) ?_ | refine WL.yld rfl (Yld.rem rfl rfl rfl rfl (by omega) (by omega)) ?_ | refine WL.yld rfl (Yld.quo rfl rfl rfl rfl (by omega) (by omega) nrmQ) ?_ | refine WL.yld rfl (Yld.eqlB rfl rfl rfl rfl) ?_ | refine WL.yld rfl (Yld.neqB rfl rfl rfl rfl) ?_ | refine WL.yld rfl (Yld.eqlA 4 rfl rfl rfl (by kernel_rfl) (by kernel_rfl) rfl rfl) ?_ | refine WL.yld rfl (Yld.neqA 4 rfl rfl rfl (by kernel_rfl) (by kernel_rfl) rfl rfl) ?_ | refine WL.yld rfl (Yld.quoT rfl rfl rfl rfl (by omega) nrmQ) ?_)
    | ((with_reducible refine WL.isN_un ?_); first | refine WL.yld rfl (Yld.pure rfl nrmQ) ?_)
    | ((with_reducible refine WL.isN_extract ?_); first | refine WL.yld rfl (Yld.pure rfl nrmQ) ?_)
    | ((with_reducible refine WL.isN_load ?_); first | refine WL.yld rfl (Yld.load rfl rfl rfl rfl cellQ) ?_ | refine WL.yld rfl (Yld.loadAgg rfl rfl rfl rfl rfl aggQ) ?_)
    | ((with_reducible refine WL.isN_faddr ?_); first | refine WL.yld rfl (Yld.fieldAddr rfl rfl rfl rfl rfl rfl rfl) ?_)
    | ((with_reducible refine WL.isN_iaddr ?_); first | refine WL.yld rfl (Yld.indexS 0 rfl rfl rfl rfl rfl rfl (by omega)) ?_ | refine WL.yld rfl (Yld.indexS 1 rfl rfl rfl rfl rfl rfl (by omega)) ?_ | refine WL.yld rfl (Yld.indexS 2 rfl rfl rfl rfl rfl rfl (by omega)) ?_ | refine WL.yld rfl (Yld.indexS _ rfl rfl rfl rfl rfl rfl (by omega)) ?_ | refine WL.yld rfl (Yld.indexA 0 rfl rfl rfl rfl rfl rfl (by omega)) ?_ | refine WL.yld rfl (Yld.indexA 1 rfl rfl rfl rfl rfl rfl (by omega)) ?_ | refine WL.yld rfl (Yld.indexA _ rfl rfl rfl rfl rfl rfl (by omega)) ?_)
    | ((with_reducible refine WL.isN_conv ?_); first | refine WL.yld rfl (Yld.convInt rfl rfl rfl rfl nrmQ) ?_)
    | ((with_reducible refine WL.isN_build ?_); first | refine WL.yld rfl (Yld.build rfl rfl rfl) ?_)
    | ((with_reducible refine WL.isN_pick ?_); first | refine WL.yld rfl (Yld.pickT rfl rfl rfl) ?_ | refine WL.yld rfl (Yld.pickF rfl rfl rfl) ?_ | refine WL.yld rfl (Yld.pickTh rfl rfl gdQ rfl) ?_ | refine WL.yld rfl (Yld.pickFh rfl rfl gdQ rfl) ?_ | refine WL.yld rfl (Yld.pickB rfl rfl rfl rfl) ?_)
    | ((with_reducible refine WL.isN_call ?_); first | refine WL.step rfl (StepTo.callV (v := .int .i64 (underF (-1) ps)) (us := [.agg #[.int .u32 cum, .slice A' ps.length c'], .int .i64 (-1)]) rfl rfl rfl rfl rfl (by kernel_rfl) (fun w hw => under_q cum A' ps.length c' ps (-1) w (hw.lst 2 Pc.cs_len (by omega) rfl) hsm (by omega)) ?_) | refine WL.step rfl (StepTo.callN [] (us := [.agg #[.int .u32 cum, .slice A' ps.length c'], .int .u32 ((cum + u) % 4294967296), .slice Ag ng cg, .int .i64 i]) rfl rfl rfl rfl rfl (by kernel_rfl) (fun w hw => ack_w cum ((cum + u) % 4294967296) i A' ps.length c' ps Ag ng cg gs w (hw.lst 2 Pc.cs_len (by omega) rfl) hok hcap hsm (by omega) (hw.lst 0 gC_len (by omega) rfl) hg65 (by omega) (by omega) (by omega) (by omega) (by omega)) ?_) | refine WL.yld rfl (Yld.lenSlice rfl rfl rfl) ?_ | refine WL.yld rfl (Yld.lenStr rfl rfl rfl) ?_)
    | ((with_reducible refine WL.isT ?_); first | refine WL.skipT rfl rfl rfl rfl gdQ ?_ | refine WL.skipU rfl rfl rfl rfl ?_ | refine WL.runT rfl rfl rfl gdQ ?_)
    | ((with_reducible refine WL.isF ?_); first | refine WL.skipF rfl rfl rfl rfl gdQ ?_ | refine WL.skipU rfl rfl rfl rfl ?_ | refine WL.runF rfl rfl rfl gdQ ?_)
    | ((with_reducible refine WL.isN_alloc ?_); first | refine WL.step rfl (StepTo.allocA rfl rfl rfl rfl (fun _ => ?_)) | refine WL.step rfl (StepTo.alloc1 rfl rfl rfl rfl rfl (fun _ => ?_)))
    | ((with_reducible refine WL.isN_store ?_); first | refine WL.step rfl (StepTo.st1 rfl rfl rfl rfl rfl rfl ?_) | refine WL.step rfl (StepTo.stA rfl rfl rfl rfl rfl rfl rfl ?_) | refine WL.step rfl (StepTo.stR rfl rfl rfl rfl rfl rfl rfl ?_))
    | ((with_reducible refine WL.isN_bslice ?_); first | refine WL.step rfl (StepTo.buildSlice rfl rfl rfl rfl rfl rfl rfl rfl rfl rfl cellsOfQ (fun _ => ?_)))
    | with_reducible refine WC.block ?_
    | with_reducible refine WC.scope ?_
    | with_reducible refine WC.label ?_
    | with_reducible refine WQ.ngN ?_
    | with_reducible refine WQ.ngR ?_
    | with_reducible refine WQ.ngX ?_
    | with_reducible refine WC.skip ?_
    | with_reducible refine WC.ret ?_
    | with_reducible refine WC.exit ?_
    | with_reducible refine WQ.thenR ?_
    | with_reducible refine WQ.thenX ?_
    | with_reducible refine WQ.blkN ?_
    | with_reducible refine WQ.blkR ?_
    | ((with_reducible refine WQ.blkX ?_ ?_); focus rfl)
    | ((with_reducible refine WQ.blkY ?_ ?_); focus rfl)
    | refine WC.condT rfl ?_
    | refine WC.condF rfl ?_
    | refine WC.condTh rfl gdQ ?_
    | refine WC.condFh rfl gdQ ?_
    | (refine WC.cond rfl (fun hc => ?_) (fun hc => ?_) <;> (try first | (with_reducible replace hc := of_decide_eq_true hc) | (with_reducible replace hc := of_decide_eq_false hc) | (with_reducible replace hc := eqT hc) | (with_reducible replace hc := eqF hc) | (with_reducible replace hc := neT hc) | (with_reducible replace hc := neF hc) | (with_reducible replace hc := noT hc) | (with_reducible replace hc := noF hc)) <;> (try (exfalso; omega))))
        rintro v N (⟨_, _, q⟩ | ⟨hno, _⟩)
        case inr => exact absurd ⟨by rw [hup]; exact hul, by rw [hup]; exact hog⟩ hno
        rw [hup] at q
        obtain ⟨last, A3, c3, AD, cd, AF, nf, cf, AT, nt, ct, hlast, hok3, hcap3, e1, e2, e3, rfl, rfl⟩ := q
        obtain ⟨fd, fo, fm⟩ := ack_facts ps u gs i last
        obtain ⟨hPa, hb0, hb1⟩ := hP.ack (now := i) hul gs hlast
        have h3l := step3_len ps u gs last hlast
        have fm' : (ack3 ps u gs i last).moved = decide ((u : Int) > 0) := by rw [fm]; exact decide_eq_decide.2 (by omega)
        rw [fd, fo, fm']
        generalize (ack3 ps u gs i last).bytes = rb at hb0 hb1 ⊢
        generalize (ack3 ps u gs i last).fresh = rf
        generalize step3 ps u gs last = ps3 at hPa h3l ⊢
        rw [← h3l] at hok3 hcap3 ⊢
        have hdt : ∀ k, k < u → ((ps.take u).map (·.tsn))[k]? = some ((dn + k) % 4294967296) := fun k hk => by
          have hkl : k < ps.length := by omega
          rw [List.getElem?_map, List.getElem?_take_of_lt hk, List.getElem?_eq_getElem hkl]
          have := (hP.right.1 k _ (List.getElem?_eq_getElem hkl)).1
          have hdn0 := hP.dn
          simp only [Option.map_some, Option.some.injEq]
          rw [this]
          omega
        have hz0 := sz_bounds ps hsm
        have hsz0 := hP.sizes
        refine WL.rowVw 0 rfl (by omega) ?_
        refine WL.rowVw 1 rfl (by omega) ?_
        repeat' (first
    | with_reducible refine WL.nil ?_
    | with_reducible refine WQ.thenN ?_
    | with_reducible refine WQ.code ?_
    | with_reducible refine WC.seq ?_
    | with_reducible refine WC.region ?_
    | ((with_reducible refine WL.isN_move ?_); first | refine WL.yld rfl (Yld.pure rfl nrmQ) ?_)
    | ((with_reducible refine WL.isN_assign ?_); first | refine WL.yld rfl (Yld.pure rfl nrmQ) ?_)
    | ((with_reducible refine WL.isN_bin ?_); first | refine WL.yld rfl (Yld.pure rfl nrmQ) ?_ | refine WL.yld rfl (Yld.rem rfl rfl rfl rfl (by omega) (by omega)) ?_ | refine WL.yld rfl (Yld.quo rfl rfl rfl rfl (by omega) (by omega) nrmQ) ?_ | refine WL.yld rfl (Yld.eqlB rfl rfl rfl rfl) ?_ | refine WL.yld rfl (Yld.neqB rfl rfl rfl rfl) ?_ | refine WL.yld rfl (Yld.eqlA 4 rfl rfl rfl (by kernel_rfl) (by kernel_rfl) rfl rfl) ?_ | refine WL.yld rfl (Yld.neqA 4 rfl rfl rfl (by kernel_rfl) (by kernel_rfl) rfl rfl) ?_ | refine WL.yld rfl (Yld.quoT rfl rfl rfl rfl (by omega) nrmQ) ?_)
    | ((with_reducible refine WL.isN_un ?_); first | refine WL.yld rfl (Yld.pure rfl nrmQ) ?_)
    | ((with_reducible refine WL.isN_extract ?_); first | refine WL.yld rfl (Yld.pure rfl nrmQ) ?_)
    | ((with_reducible refine WL.isN_load ?_); first | refine WL.yld rfl (Yld.load rfl rfl rfl rfl cellQ) ?_ | refine WL.yld rfl (Yld.loadAgg rfl rfl rfl rfl rfl aggQ) ?_)
    | ((with_reducible refine WL.isN_faddr ?_); first | refine WL.yld rfl (Yld.fieldAddr rfl rfl rfl rfl rfl rfl rfl) ?_)
    | ((with_reducible refine WL.isN_iaddr ?_); first | refine WL.yld rfl (Yld.indexS 0 rfl rfl rfl rfl rfl rfl (by omega)) ?_ | refine WL.yld rfl (Yld.indexS 1 rfl rfl rfl rfl rfl rfl (by omega)) ?_ | refine WL.yld rfl (Yld.indexS 2 rfl rfl rfl rfl rfl rfl (by omega)) ?_ | refine WL.yld rfl (Yld.indexS _ rfl rfl rfl rfl rfl rfl (by omega)) ?_ | refine WL.yld rfl (Yld.indexA 0 rfl rfl rfl rfl rfl rfl (by omega)) ?_ | refine WL.yld rfl (Yld.indexA 1 rfl rfl rfl rfl rfl rfl (by omega)) ?_ | refine WL.yld rfl (Yld.indexA _ rfl rfl rfl rfl rfl rfl (by omega)) ?_)
    | ((with_reducible refine WL.isN_conv ?_); first | refine WL.yld rfl (Yld.convInt rfl rfl rfl rfl nrmQ) ?_)
    | ((with_reducible refine WL.isN_build ?_); first | refine WL.yld rfl (Yld.build rfl rfl rfl) ?_)
    | ((with_reducible refine WL.isN_pick ?_); first | refine WL.yld rfl (Yld.pickT rfl rfl rfl) ?_ | refine WL.yld rfl (Yld.pickF rfl rfl rfl) ?_ | refine WL.yld rfl (Yld.pickTh rfl rfl gdQ rfl) ?_ | refine WL.yld rfl (Yld.pickFh rfl rfl gdQ rfl) ?_ | refine WL.yld rfl (Yld.pickB rfl rfl rfl rfl) ?_)
    | ((with_reducible refine WL.isN_call ?_); first | refine WL.yld rfl (Yld.lenSlice rfl rfl rfl) ?_ | refine WL.yld rfl (Yld.lenStr rfl rfl rfl) ?_)
    | ((with_reducible refine WL.isT ?_); first | refine WL.skipT rfl rfl rfl rfl gdQ ?_ | refine WL.skipU rfl rfl rfl rfl ?_ | refine WL.runT rfl rfl rfl gdQ ?_)
    | ((with_reducible refine WL.isF ?_); first | refine WL.skipF rfl rfl rfl rfl gdQ ?_ | refine WL.skipU rfl rfl rfl rfl ?_ | refine WL.runF rfl rfl rfl gdQ ?_)
    | ((with_reducible refine WL.isN_alloc ?_); first | refine WL.step rfl (StepTo.allocA rfl rfl rfl rfl (fun _ => ?_)) | refine WL.step rfl (StepTo.alloc1 rfl rfl rfl rfl rfl (fun _ => ?_)))
    | ((with_reducible refine WL.isN_store ?_); first | refine WL.step rfl (StepTo.st1 rfl rfl rfl rfl rfl rfl ?_) | refine WL.step rfl (StepTo.stA rfl rfl rfl rfl rfl rfl rfl ?_) | refine WL.step rfl (StepTo.stR rfl rfl rfl rfl rfl rfl rfl ?_))
    | ((with_reducible refine WL.isN_bslice ?_); first | refine WL.step rfl (StepTo.buildSlice rfl rfl rfl rfl rfl rfl rfl rfl rfl rfl cellsOfQ (fun _ => ?_)))
    | with_reducible refine WC.block ?_
    | with_reducible refine WC.scope ?_
    | with_reducible refine WC.label ?_
    | with_reducible refine WQ.ngN ?_
    | with_reducible refine WQ.ngR ?_
    | with_reducible refine WQ.ngX ?_
    | with_reducible refine WC.skip ?_
    | with_reducible refine WC.ret ?_
    | with_reducible refine WC.exit ?_
    | with_reducible refine WQ.thenR ?_
    | with_reducible refine WQ.thenX ?_
    | with_reducible refine WQ.blkN ?_
    | with_reducible refine WQ.blkR ?_
    | ((with_reducible refine WQ.blkX ?_ ?_); focus rfl)
    | ((with_reducible refine WQ.blkY ?_ ?_); focus rfl)
    | refine WC.condT rfl ?_
    | refine WC.condF rfl ?_
    | refine WC.condTh rfl gdQ ?_
    | refine WC.condFh rfl gdQ ?_
    | (refine WC.cond rfl (fun hc => ?_) (fun hc => ?_) <;> (try first | (with_reducible replace hc := of_decide_eq_true hc) | (with_reducible replace hc := of_decide_eq_false hc) | (with_reducible replace hc := eqT hc) | (with_reducible replace hc := eqF hc) | (with_reducible replace hc := neT hc) | (with_reducible replace hc := neF hc) | (with_reducible replace hc := noT hc) | (with_reducible replace hc := noF hc)) <;> (try (exfalso; omega))))
        rename_i bt br
        refine WC.loop (fun mm τ H => ∃ k : Nat, k ≤ u ∧ mm = u - k ∧
            τ = [(1, .slice (some ⟨ba, oa, none⟩) n c), (6, .pointer (some ⟨bs, 0, none⟩)), (7, .int .u32 next), (8, .int .u32 ((dn + k) % 4294967296)), (9, .int .i64 all), (10, .int .i64 i), (14, .int .i64 u), (20, .pointer (some ⟨bt, 0, none⟩)), (21, .pointer (some ⟨br, 0, none⟩)), (23, .int .i64 k)] ∧
            H = [.box br 36 [.int .i64 rb, .int .i64 (underF (-1) ps), .bool (decide ((u : Int) > 0)), .bool rf, .slice AD u cd, .slice AF nf cf, .slice AT nt ct], .box bt 25 [.int .u32 ((cum + u) % 4294967296), .slice A3 ps3.length c3], .vw A3 ps3.length 7 (flat Pc.cs ps3), .vw AD u 1 (flat u32c ((ps.take u).map (·.tsn))), .box bs 25 [.int .u32 cum, .slice A' ps.length c'], .vw (some ⟨ba, oa, none⟩) n 6 (flat Act6.cs xs)])
          u _ _ [0, 1, 2, 3, 7, 9] ?_ ?_ ⟨0, by omega, rfl, rfl, rfl⟩ ?_
        · exact (by repeat (first | exact Sub.nil | refine Sub.cons rfl ?_ | refine Sub.consE rfl (int_eq (by omega)) ?_))
        · exact ⟨by decide, rfl⟩
        rintro mm τ H ⟨k, hk, rfl, rfl, rfl⟩
        by_cases hku : k < u
        · have hpk : PartAt (flat u32c ((ps.take u).map (·.tsn))) (k * 1) [.int .u32 ((dn + k) % 4294967296)] := PartAt.flat (ic_len .u32) (hdt k hku)
          refine WC.vwAt 3 rfl (by omega) fun bd od hAD => ?_
          subst hAD
          repeat' (first
    | with_reducible refine WL.nil ?_
    | with_reducible refine WQ.thenN ?_
    | with_reducible refine WQ.code ?_
    | with_reducible refine WC.seq ?_
    | with_reducible refine WC.region ?_
    | ((with_reducible refine WL.isN_move ?_); first | refine WL.yld rfl (Yld.pure rfl nrmQ) ?_)
    | ((with_reducible refine WL.isN_assign ?_); first | refine WL.yld rfl (Yld.pure rfl nrmQ) ?_)
    | ((with_reducible refine WL.isN_bin ?_); first | refine WL.yld rfl (Yld.pure rfl nrmQ) ?_ | refine WL.yld rfl (Yld.rem rfl rfl rfl rfl (by omega) (by omega)) ?_ | refine WL.yld rfl (Yld.quo rfl rfl rfl rfl (by omega) (by omega) nrmQ) ?_ | refine WL.yld rfl (Yld.eqlB rfl rfl rfl rfl) ?_ | refine WL.yld rfl (Yld.neqB rfl rfl rfl rfl) ?_ | refine WL.yld rfl (Yld.eqlA 4 rfl rfl rfl (by kernel_rfl) (by kernel_rfl) rfl rfl) ?_ | refine WL.yld rfl (Yld.neqA 4 rfl rfl rfl (by kernel_rfl) (by kernel_rfl) rfl rfl) ?_ | refine WL.yld rfl (Yld.quoT rfl rfl rfl rfl (by omega) nrmQ) ?_)
    | ((with_reducible refine WL.isN_un ?_); first | refine WL.yld rfl (Yld.pure rfl nrmQ) ?_)
    | ((with_reducible refine WL.isN_extract ?_); first | refine WL.yld rfl (Yld.pure rfl nrmQ) ?_)
    | ((with_reducible refine WL.isN_load ?_); first | refine WL.yld rfl (Yld.load rfl rfl rfl rfl cellQ) ?_ | refine WL.yld rfl (Yld.loadAgg rfl rfl rfl rfl rfl aggQ) ?_)
    | ((with_reducible refine WL.isN_faddr ?_); first | refine WL.yld rfl (Yld.fieldAddr rfl rfl rfl rfl rfl rfl rfl) ?_)
    | ((with_reducible refine WL.isN_iaddr ?_); first | refine WL.yld rfl (Yld.indexS 0 rfl rfl rfl rfl rfl rfl (by omega)) ?_ | refine WL.yld rfl (Yld.indexS 1 rfl rfl rfl rfl rfl rfl (by omega)) ?_ | refine WL.yld rfl (Yld.indexS 2 rfl rfl rfl rfl rfl rfl (by omega)) ?_ | refine WL.yld rfl (Yld.indexS _ rfl rfl rfl rfl rfl rfl (by omega)) ?_ | refine WL.yld rfl (Yld.indexA 0 rfl rfl rfl rfl rfl rfl (by omega)) ?_ | refine WL.yld rfl (Yld.indexA 1 rfl rfl rfl rfl rfl rfl (by omega)) ?_ | refine WL.yld rfl (Yld.indexA _ rfl rfl rfl rfl rfl rfl (by omega)) ?_)
    | ((with_reducible refine WL.isN_conv ?_); first | refine WL.yld rfl (Yld.convInt rfl rfl rfl rfl nrmQ) ?_)
    | ((with_reducible refine WL.isN_build ?_); first | refine WL.yld rfl (Yld.build rfl rfl rfl) ?_)
    | ((with_reducible refine WL.isN_pick ?_); first | refine WL.yld rfl (Yld.pickT rfl rfl rfl) ?_ | refine WL.yld rfl (Yld.pickF rfl rfl rfl) ?_ | refine WL.yld rfl (Yld.pickTh rfl rfl gdQ rfl) ?_ | refine WL.yld rfl (Yld.pickFh rfl rfl gdQ rfl) ?_ | refine WL.yld rfl (Yld.pickB rfl rfl rfl rfl) ?_)
    | ((with_reducible refine WL.isN_call ?_); first | refine WL.yld rfl (Yld.lenSlice rfl rfl rfl) ?_ | refine WL.yld rfl (Yld.lenStr rfl rfl rfl) ?_)
    | ((with_reducible refine WL.isT ?_); first | refine WL.skipT rfl rfl rfl rfl gdQ ?_ | refine WL.skipU rfl rfl rfl rfl ?_ | refine WL.runT rfl rfl rfl gdQ ?_)
    | ((with_reducible refine WL.isF ?_); first | refine WL.skipF rfl rfl rfl rfl gdQ ?_ | refine WL.skipU rfl rfl rfl rfl ?_ | refine WL.runF rfl rfl rfl gdQ ?_)
    | ((with_reducible refine WL.isN_alloc ?_); first | refine WL.step rfl (StepTo.allocA rfl rfl rfl rfl (fun _ => ?_)) | refine WL.step rfl (StepTo.alloc1 rfl rfl rfl rfl rfl (fun _ => ?_)))
    | ((with_reducible refine WL.isN_store ?_); first | refine WL.step rfl (StepTo.st1 rfl rfl rfl rfl rfl rfl ?_) | refine WL.step rfl (StepTo.stA rfl rfl rfl rfl rfl rfl rfl ?_) | refine WL.step rfl (StepTo.stR rfl rfl rfl rfl rfl rfl rfl ?_))
    | ((with_reducible refine WL.isN_bslice ?_); first | refine WL.step rfl (StepTo.buildSlice rfl rfl rfl rfl rfl rfl rfl rfl rfl rfl cellsOfQ (fun _ => ?_)))
    | with_reducible refine WC.block ?_
    | with_reducible refine WC.scope ?_
    | with_reducible refine WC.label ?_
    | with_reducible refine WQ.ngN ?_
    | with_reducible refine WQ.ngR ?_
    | with_reducible refine WQ.ngX ?_
    | with_reducible refine WC.skip ?_
    | with_reducible refine WC.ret ?_
    | with_reducible refine WC.exit ?_
    | with_reducible refine WQ.thenR ?_
    | with_reducible refine WQ.thenX ?_
    | with_reducible refine WQ.blkN ?_
    | with_reducible refine WQ.blkR ?_
    | ((with_reducible refine WQ.blkX ?_ ?_); focus rfl)
    | ((with_reducible refine WQ.blkY ?_ ?_); focus rfl)
    | refine WC.condT rfl ?_
    | refine WC.condF rfl ?_
    | refine WC.condTh rfl gdQ ?_
    | refine WC.condFh rfl gdQ ?_
    | (refine WC.cond rfl (fun hc => ?_) (fun hc => ?_) <;> (try first | (with_reducible replace hc := of_decide_eq_true hc) | (with_reducible replace hc := of_decide_eq_false hc) | (with_reducible replace hc := eqT hc) | (with_reducible replace hc := eqF hc) | (with_reducible replace hc := neT hc) | (with_reducible replace hc := neF hc) | (with_reducible replace hc := noT hc) | (with_reducible replace hc := noF hc)) <;> (try (exfalso; omega))))
          exact WQ.rnd (u - (k + 1)) _ _ [0, 1, 2, 3, 4, 5] (by repeat (first | exact Sub.nil | refine Sub.cons rfl ?_ | refine Sub.consE rfl (int_eq (by omega)) ?_)) ⟨by decide, rfl⟩ (by omega) ⟨k + 1, by omega, rfl, rfl, rfl⟩
        obtain rfl : u = k := by omega
        repeat' (first
    | with_reducible refine WL.nil ?_
    | with_reducible refine WQ.thenN ?_
    | with_reducible refine WQ.code ?_
    | with_reducible refine WC.seq ?_
    | with_reducible refine WC.region ?_
    | ((with_reducible refine WL.isN_move ?_); first | refine WL.yld rfl (Yld.pure rfl nrmQ) ?_)
    | ((with_reducible refine WL.isN_assign ?_); first | refine WL.yld rfl (Yld.pure rfl nrmQ) ?_)
    | ((with_reducible refine WL.isN_bin ?_); first | refine WL.yld rfl (Yld.pure rfl nrmQ) ?_ | refine WL.yld rfl (Yld.rem rfl rfl rfl rfl (by omega) (by omega)) ?_ | refine WL.yld rfl (Yld.quo rfl rfl rfl rfl (by omega) (by omega) nrmQ) ?_ | refine WL.yld rfl (Yld.eqlB rfl rfl rfl rfl) ?_ | refine WL.yld rfl (Yld.neqB rfl rfl rfl rfl) ?_ | refine WL.yld rfl (Yld.eqlA 4 rfl rfl rfl (by kernel_rfl) (by kernel_rfl) rfl rfl) ?_ | refine WL.yld rfl (Yld.neqA 4 rfl rfl rfl (by kernel_rfl) (by kernel_rfl) rfl rfl) ?_ | refine WL.yld rfl (Yld.quoT rfl rfl rfl rfl (by omega) nrmQ) ?_)
    | ((with_reducible refine WL.isN_un ?_); first | refine WL.yld rfl (Yld.pure rfl nrmQ) ?_)
    | ((with_reducible refine WL.isN_extract ?_); first | refine WL.yld rfl (Yld.pure rfl nrmQ) ?_)
    | ((with_reducible refine WL.isN_load ?_); first | refine WL.yld rfl (Yld.load rfl rfl rfl rfl cellQ) ?_ | refine WL.yld rfl (Yld.loadAgg rfl rfl rfl rfl rfl aggQ) ?_)
    | ((with_reducible refine WL.isN_faddr ?_); first | refine WL.yld rfl (Yld.fieldAddr rfl rfl rfl rfl rfl rfl rfl) ?_)
    | ((with_reducible refine WL.isN_iaddr ?_); first | refine WL.yld rfl (Yld.indexS 0 rfl rfl rfl rfl rfl rfl (by omega)) ?_ | refine WL.yld rfl (Yld.indexS 1 rfl rfl rfl rfl rfl rfl (by omega)) ?_ | refine WL.yld rfl (Yld.indexS 2 rfl rfl rfl rfl rfl rfl (by omega)) ?_ | refine WL.yld rfl (Yld.indexS _ rfl rfl rfl rfl rfl rfl (by omega)) ?_ | refine WL.yld rfl (Yld.indexA 0 rfl rfl rfl rfl rfl rfl (by omega)) ?_ | refine WL.yld rfl (Yld.indexA 1 rfl rfl rfl rfl rfl rfl (by omega)) ?_ | refine WL.yld rfl (Yld.indexA _ rfl rfl rfl rfl rfl rfl (by omega)) ?_)
    | ((with_reducible refine WL.isN_conv ?_); first | refine WL.yld rfl (Yld.convInt rfl rfl rfl rfl nrmQ) ?_)
    | ((with_reducible refine WL.isN_build ?_); first | refine WL.yld rfl (Yld.build rfl rfl rfl) ?_)
    | ((with_reducible refine WL.isN_pick ?_); first | refine WL.yld rfl (Yld.pickT rfl rfl rfl) ?_ | refine WL.yld rfl (Yld.pickF rfl rfl rfl) ?_ | refine WL.yld rfl (Yld.pickTh rfl rfl gdQ rfl) ?_ | refine WL.yld rfl (Yld.pickFh rfl rfl gdQ rfl) ?_ | refine WL.yld rfl (Yld.pickB rfl rfl rfl rfl) ?_)
    | ((with_reducible refine WL.isN_call ?_); first | refine WL.yld rfl (Yld.lenSlice rfl rfl rfl) ?_ | refine WL.yld rfl (Yld.lenStr rfl rfl rfl) ?_)
    | ((with_reducible refine WL.isT ?_); first | refine WL.skipT rfl rfl rfl rfl gdQ ?_ | refine WL.skipU rfl rfl rfl rfl ?_ | refine WL.runT rfl rfl rfl gdQ ?_)
    | ((with_reducible refine WL.isF ?_); first | refine WL.skipF rfl rfl rfl rfl gdQ ?_ | refine WL.skipU rfl rfl rfl rfl ?_ | refine WL.runF rfl rfl rfl gdQ ?_)
    | ((with_reducible refine WL.isN_alloc ?_); first | refine WL.step rfl (StepTo.allocA rfl rfl rfl rfl (fun _ => ?_)) | refine WL.step rfl (StepTo.alloc1 rfl rfl rfl rfl rfl (fun _ => ?_)))
    | ((with_reducible refine WL.isN_store ?_); first | refine WL.step rfl (StepTo.st1 rfl rfl rfl rfl rfl rfl ?_) | refine WL.step rfl (StepTo.stA rfl rfl rfl rfl rfl rfl rfl ?_) | refine WL.step rfl (StepTo.stR rfl rfl rfl rfl rfl rfl rfl ?_))
    | ((with_reducible refine WL.isN_bslice ?_); first | refine WL.step rfl (StepTo.buildSlice rfl rfl rfl rfl rfl rfl rfl rfl rfl rfl cellsOfQ (fun _ => ?_)))
    | with_reducible refine WC.block ?_
    | with_reducible refine WC.scope ?_
    | with_reducible refine WC.label ?_
    | with_reducible refine WQ.ngN ?_
    | with_reducible refine WQ.ngR ?_
    | with_reducible refine WQ.ngX ?_
    | with_reducible refine WC.skip ?_
    | with_reducible refine WC.ret ?_
    | with_reducible refine WC.exit ?_
    | with_reducible refine WQ.thenR ?_
    | with_reducible refine WQ.thenX ?_
    | with_reducible refine WQ.blkN ?_
    | with_reducible refine WQ.blkR ?_
    | ((with_reducible refine WQ.blkX ?_ ?_); focus rfl)
    | ((with_reducible refine WQ.blkY ?_ ?_); focus rfl)
    | refine WC.condT rfl ?_
    | refine WC.condF rfl ?_
    | refine WC.condTh rfl gdQ ?_
    | refine WC.condFh rfl gdQ ?_
    | (refine WC.cond rfl (fun hc => ?_) (fun hc => ?_) <;> (try first | (with_reducible replace hc := of_decide_eq_true hc) | (with_reducible replace hc := of_decide_eq_false hc) | (with_reducible replace hc := eqT hc) | (with_reducible replace hc := eqF hc) | (with_reducible replace hc := neT hc) | (with_reducible replace hc := neF hc) | (with_reducible replace hc := noT hc) | (with_reducible replace hc := noF hc)) <;> (try (exfalso; omega))))
        exact WQ.met _ _ [4, 2, 5] (by repeat (first | exact Sub.nil | refine Sub.cons rfl ?_ | refine Sub.consE rfl (int_eq (by omega)) ?_)) ⟨by decide, rfl⟩ ⟨A3, c3, (cum + u) % 4294967296, next, (dn + u) % 4294967296, all, ps3, hPa.up (by omega), hnb, by omega, hok3, hcap3, rfl, rfl⟩
      · obtain ⟨k3, hk3, hck3⟩ := spick_n a.path 3 hao.path.1 hao.path.2 (by omega) (by omega)
        have hdl : (ps.map (drop1 ((k3 : Int) - 1))).length = ps.length := List.length_map _
        repeat' (first
    | with_reducible refine WL.nil ?_
    | with_reducible refine WQ.thenN ?_
    | with_reducible refine WQ.code ?_
    | with_reducible refine WC.seq ?_
    | with_reducible refine WC.region ?_
    | ((with_reducible refine WL.isN_move ?_); first | refine WL.yld rfl (Yld.pure rfl nrmQ) ?_)
    | ((with_reducible refine WL.isN_assign ?_); first | refine WL.yld rfl (Yld.pure rfl nrmQ) ?_)
    | ((with_reducible refine WL.isN_bin ?_); first | refine WL.yld rfl (Yld.pure rfl nrmQ) ?_ | refine WL.yld rfl (Yld.rem rfl rfl rfl rfl (by omega) (by omega)) ?_ | refine WL.yld rfl (Yld.quo rfl rfl rfl rfl (by omega) (by omega) nrmQ) ?_ | refine WL.yld rfl (Yld.eqlB rfl rfl rfl rfl) ?_ | refine WL.yld rfl (Yld.neqB rfl rfl rfl rfl) ?_ | refine WL.yld rfl (Yld.eqlA 4 rfl rfl rfl (by kernel_rfl) (by kernel_rfl) rfl rfl) ?_ | refine WL.yld rfl (Yld.neqA 4 rfl rfl rfl (by kernel_rfl) (by kernel_rfl) rfl rfl) ?_ | refine WL.yld rfl (Yld.quoT rfl rfl rfl rfl (by omega) nrmQ) ?_)
    | ((with_reducible refine WL.isN_un ?_); first | refine WL.yld rfl (Yld.pure rfl nrmQ) ?_)
    | ((with_reducible refine WL.isN_extract ?_); first | refine WL.yld rfl (Yld.pure rfl nrmQ) ?_)
    | ((with_reducible refine WL.isN_load ?_); first | refine WL.yld rfl (Yld.load rfl rfl rfl rfl cellQ) ?_ | refine WL.yld rfl (Yld.loadAgg rfl rfl rfl rfl rfl aggQ) ?_)
    | ((with_reducible refine WL.isN_faddr ?_); first | refine WL.yld rfl (Yld.fieldAddr rfl rfl rfl rfl rfl rfl rfl) ?_)
    | ((with_reducible refine WL.isN_iaddr ?_); first | refine WL.yld rfl (Yld.indexS 0 rfl rfl rfl rfl rfl rfl (by omega)) ?_ | refine WL.yld rfl (Yld.indexS 1 rfl rfl rfl rfl rfl rfl (by omega)) ?_ | refine WL.yld rfl (Yld.indexS 2 rfl rfl rfl rfl rfl rfl (by omega)) ?_ | refine WL.yld rfl (Yld.indexS _ rfl rfl rfl rfl rfl rfl (by omega)) ?_ | refine WL.yld rfl (Yld.indexA 0 rfl rfl rfl rfl rfl rfl (by omega)) ?_ | refine WL.yld rfl (Yld.indexA 1 rfl rfl rfl rfl rfl rfl (by omega)) ?_ | refine WL.yld rfl (Yld.indexA _ rfl rfl rfl rfl rfl rfl (by omega)) ?_)
    | ((with_reducible refine WL.isN_conv ?_); first | refine WL.yld rfl (Yld.convInt rfl rfl rfl rfl nrmQ) ?_)
    | ((with_reducible refine WL.isN_build ?_); first | refine WL.yld rfl (Yld.build rfl rfl rfl) ?_)
    | ((with_reducible refine WL.isN_pick ?_); first | refine WL.yld rfl (Yld.pickT rfl rfl rfl) ?_ | refine WL.yld rfl (Yld.pickF rfl rfl rfl) ?_ | refine WL.yld rfl (Yld.pickTh rfl rfl gdQ rfl) ?_ | refine WL.yld rfl (Yld.pickFh rfl rfl gdQ rfl) ?_ | refine WL.yld rfl (Yld.pickB rfl rfl rfl rfl) ?_)
    | ((with_reducible refine WL.isN_call ?_); first | refine WL.yld rfl (Yld.lenSlice rfl rfl rfl) ?_ | refine WL.yld rfl (Yld.lenStr rfl rfl rfl) ?_)
    | ((with_reducible refine WL.isT ?_); first | refine WL.skipT rfl rfl rfl rfl gdQ ?_ | refine WL.skipU rfl rfl rfl rfl ?_ | refine WL.runT rfl rfl rfl gdQ ?_)
    | ((with_reducible refine WL.isF ?_); first | refine WL.skipF rfl rfl rfl rfl gdQ ?_ | refine WL.skipU rfl rfl rfl rfl ?_ | refine WL.runF rfl rfl rfl gdQ ?_)
    | ((with_reducible refine WL.isN_alloc ?_); first | refine WL.step rfl (StepTo.allocA rfl rfl rfl rfl (fun _ => ?_)) | refine WL.step rfl (StepTo.alloc1 rfl rfl rfl rfl rfl (fun _ => ?_)))
    | ((with_reducible refine WL.isN_store ?_); first | refine WL.step rfl (StepTo.st1 rfl rfl rfl rfl rfl rfl ?_) | refine WL.step rfl (StepTo.stA rfl rfl rfl rfl rfl rfl rfl ?_) | refine WL.step rfl (StepTo.stR rfl rfl rfl rfl rfl rfl rfl ?_))
    | ((with_reducible refine WL.isN_bslice ?_); first | refine WL.step rfl (StepTo.buildSlice rfl rfl rfl rfl rfl rfl rfl rfl rfl rfl cellsOfQ (fun _ => ?_)))
    | with_reducible refine WC.scope ?_
    | with_reducible refine WC.label ?_
    | with_reducible refine WQ.ngN ?_
    | with_reducible refine WQ.ngR ?_
    | with_reducible refine WQ.ngX ?_
    | with_reducible refine WC.skip ?_
    | with_reducible refine WC.ret ?_
    | with_reducible refine WC.exit ?_
    | with_reducible refine WQ.thenR ?_
    | with_reducible refine WQ.thenX ?_
    | with_reducible refine WQ.blkN ?_
    | with_reducible refine WQ.blkR ?_
    | ((with_reducible refine WQ.blkX ?_ ?_); focus rfl)
    | ((with_reducible refine WQ.blkY ?_ ?_); focus rfl)
    | refine WC.condT rfl ?_
    | refine WC.condF rfl ?_
    | refine WC.condTh rfl gdQ ?_
    | refine WC.condFh rfl gdQ ?_
    | (refine WC.cond rfl (fun hc => ?_) (fun hc => ?_) <;> (try first | (with_reducible replace hc := of_decide_eq_true hc) | (with_reducible replace hc := of_decide_eq_false hc) | (with_reducible replace hc := eqT hc) | (with_reducible replace hc := eqF hc) | (with_reducible replace hc := neT hc) | (with_reducible replace hc := neF hc) | (with_reducible replace hc := noT hc) | (with_reducible replace hc := noF hc)) <;> (try (exfalso; omega))))
        refine WC.block ?_
        repeat' (first
    | with_reducible refine WL.nil ?_
    | with_reducible refine WQ.thenN ?_
    | with_reducible refine WQ.code ?_
    | with_reducible refine WC.seq ?_
    | with_reducible refine WC.region ?_
    | ((with_reducible refine WL.isN_move ?_); first | refine WL.yld rfl (Yld.pure rfl nrmQ) ?_)
    | ((with_reducible refine WL.isN_assign ?_); first | refine WL.yld rfl (Yld.pure rfl nrmQ) ?_)
    | ((with_reducible refine WL.isN_bin ?_); first | refine WL.yld rfl (Yld.pure rfl nrmQ) ?_ | refine WL.yld rfl (Yld.rem rfl rfl rfl rfl (by omega) (by omega)) ?_ | refine WL.yld rfl (Yld.quo rfl rfl rfl rfl (by omega) (by omega) nrmQ) ?_ | refine WL.yld rfl (Yld.eqlB rfl rfl rfl rfl) ?_ | refine WL.yld rfl (Yld.neqB rfl rfl rfl rfl) ?_ | refine WL.yld rfl (Yld.eqlA 4 rfl rfl rfl (by kernel_rfl) (by kernel_rfl) rfl rfl) ?_ | refine WL.yld rfl (Yld.neqA 4 rfl rfl rfl (by kernel_rfl) (by kernel_rfl) rfl rfl) ?_ | refine WL.yld rfl (Yld.quoT rfl rfl rfl rfl (by omega) nrmQ) ?_)
    | ((with_reducible refine WL.isN_un ?_); first | refine WL.yld rfl (Yld.pure rfl nrmQ) ?_)
    | ((with_reducible refine WL.isN_extract ?_); first | refine WL.yld rfl (Yld.pure rfl nrmQ) ?_)
    | ((with_reducible refine WL.isN_load ?_); first | refine WL.yld rfl (Yld.load rfl rfl rfl rfl cellQ) ?_ | refine WL.yld rfl (Yld.loadAgg rfl rfl rfl rfl rfl aggQ) ?_)
    | ((with_reducible refine WL.isN_faddr ?_); first | refine WL.yld rfl (Yld.fieldAddr rfl rfl rfl rfl rfl rfl rfl) ?_)
    | ((with_reducible refine WL.isN_iaddr ?_); first | refine WL.yld rfl (Yld.indexS 0 rfl rfl rfl rfl rfl rfl (by omega)) ?_ | refine WL.yld rfl (Yld.indexS 1 rfl rfl rfl rfl rfl rfl (by omega)) ?_ | refine WL.yld rfl (Yld.indexS 2 rfl rfl rfl rfl rfl rfl (by omega)) ?_ | refine WL.yld rfl (Yld.indexS _ rfl rfl rfl rfl rfl rfl (by omega)) ?_ | refine WL.yld rfl (Yld.indexA 0 rfl rfl rfl rfl rfl rfl (by omega)) ?_ | refine WL.yld rfl (Yld.indexA 1 rfl rfl rfl rfl rfl rfl (by omega)) ?_ | refine WL.yld rfl (Yld.indexA _ rfl rfl rfl rfl rfl rfl (by omega)) ?_)
    | ((with_reducible refine WL.isN_conv ?_); first | refine WL.yld rfl (Yld.convInt rfl rfl rfl rfl nrmQ) ?_)
    | ((with_reducible refine WL.isN_build ?_); first | refine WL.yld rfl (Yld.build rfl rfl rfl) ?_)
    | ((with_reducible refine WL.isN_pick ?_); first | refine WL.yld rfl (Yld.pickT rfl rfl rfl) ?_ | refine WL.yld rfl (Yld.pickF rfl rfl rfl) ?_ | refine WL.yld rfl (Yld.pickTh rfl rfl gdQ rfl) ?_ | refine WL.yld rfl (Yld.pickFh rfl rfl gdQ rfl) ?_ | refine WL.yld rfl (Yld.pickB rfl rfl rfl rfl) ?_)
    | ((with_reducible refine WL.isN_call ?_); first | refine WL.yld rfl (Yld.lenSlice rfl rfl rfl) ?_ | refine WL.yld rfl (Yld.lenStr rfl rfl rfl) ?_)
    | ((with_reducible refine WL.isT ?_); first | refine WL.skipT rfl rfl rfl rfl gdQ ?_ | refine WL.skipU rfl rfl rfl rfl ?_ | refine WL.runT rfl rfl rfl gdQ ?_)
    | ((with_reducible refine WL.isF ?_); first | refine WL.skipF rfl rfl rfl rfl gdQ ?_ | refine WL.skipU rfl rfl rfl rfl ?_ | refine WL.runF rfl rfl rfl gdQ ?_)
    | ((with_reducible refine WL.isN_alloc ?_); first | refine WL.step rfl (StepTo.allocA rfl rfl rfl rfl (fun _ => ?_)) | refine WL.step rfl (StepTo.alloc1 rfl rfl rfl rfl rfl (fun _ => ?_)))
    | ((with_reducible refine WL.isN_store ?_); first | refine WL.step rfl (StepTo.st1 rfl rfl rfl rfl rfl rfl ?_) | refine WL.step rfl (StepTo.stA rfl rfl rfl rfl rfl rfl rfl ?_) | refine WL.step rfl (StepTo.stR rfl rfl rfl rfl rfl rfl rfl ?_))
    | ((with_reducible refine WL.isN_bslice ?_); first | refine WL.step rfl (StepTo.buildSlice rfl rfl rfl rfl rfl rfl rfl rfl rfl rfl cellsOfQ (fun _ => ?_)))
    | with_reducible refine WC.scope ?_
    | with_reducible refine WC.label ?_
    | with_reducible refine WQ.ngN ?_
    | with_reducible refine WQ.ngR ?_
    | with_reducible refine WQ.ngX ?_
    | with_reducible refine WC.skip ?_
    | with_reducible refine WC.ret ?_
    | with_reducible refine WC.exit ?_
    | with_reducible refine WQ.thenR ?_
    | with_reducible refine WQ.thenX ?_
    | with_reducible refine WQ.blkN ?_
    | with_reducible refine WQ.blkR ?_
    | ((with_reducible refine WQ.blkX ?_ ?_); focus rfl)
    | ((with_reducible refine WQ.blkY ?_ ?_); focus rfl)
    | refine WC.condT rfl ?_
    | refine WC.condF rfl ?_
    | refine WC.condTh rfl gdQ ?_
    | refine WC.condFh rfl gdQ ?_
    | (refine WC.cond rfl (fun hc => ?_) (fun hc => ?_) <;> (try first | (with_reducible replace hc := of_decide_eq_true hc) | (with_reducible replace hc := of_decide_eq_false hc) | (with_reducible replace hc := eqT hc) | (with_reducible replace hc := eqF hc) | (with_reducible replace hc := neT hc) | (with_reducible replace hc := neF hc) | (with_reducible replace hc := noT hc) | (with_reducible replace hc := noF hc)) <;> (try (exfalso; omega))))
        refine WC.anyI [2] (by kernel_rfl) ?_
        refine WA.take (idx := [2]) 1 rfl (by kernel_rfl) (by kernel_rfl) (by kernel_rfl) rfl ⟨by decide, rfl⟩ (Yld.pure rfl nrmQ) ?_
        refine WA.take (idx := [2]) 2 rfl (by kernel_rfl) (by kernel_rfl) (by kernel_rfl) rfl ⟨by decide, rfl⟩ (Yld.pure rfl nrmQ) ?_
        refine WA.take (idx := [2]) 3 rfl (by kernel_rfl) (by kernel_rfl) (by kernel_rfl) rfl ⟨by decide, rfl⟩ (by first | exact Yld.indexS 0 rfl rfl rfl rfl rfl rfl (by omega) | exact Yld.indexS 1 rfl rfl rfl rfl rfl rfl (by omega) | exact Yld.indexS 2 rfl rfl rfl rfl rfl rfl (by omega) | exact Yld.indexS _ rfl rfl rfl rfl rfl rfl (by omega) | exact Yld.indexA 0 rfl rfl rfl rfl rfl rfl (by omega) | exact Yld.indexA 1 rfl rfl rfl rfl rfl rfl (by omega) | exact Yld.indexA _ rfl rfl rfl rfl rfl rfl (by omega)) ?_
        refine WA.take (idx := [2]) 4 rfl (by kernel_rfl) (by kernel_rfl) (by kernel_rfl) rfl ⟨by decide, rfl⟩ (Yld.fieldAddr rfl rfl rfl rfl rfl rfl rfl) ?_
        refine WA.take (idx := [2]) 5 rfl (by kernel_rfl) (by kernel_rfl) (by kernel_rfl) rfl ⟨by decide, rfl⟩ (by first | exact Yld.load rfl rfl rfl rfl cellQ | exact Yld.loadAgg rfl rfl rfl rfl rfl aggQ) ?_
        refine WA.two 0 6 (by kernel_rfl) rfl rfl rfl rfl ?_ ?_
        · refine StepTo.yld (by first | exact Yld.load rfl rfl rfl rfl cellQ | exact Yld.loadAgg rfl rfl rfl rfl rfl aggQ) rfl ⟨⟨[2], by decide, rfl⟩, ?_⟩
          refine WA.one 6 (by kernel_rfl) rfl rfl ?_
          refine StepTo.callV (us := [.int .i64 a.path, .int .i64 3]) rfl rfl rfl rfl rfl (by kernel_rfl) (fun w _ => hck3 w) ⟨⟨[2], by decide, rfl⟩, ?_⟩
          refine WA.take (idx := [2]) 7 rfl (by kernel_rfl) (by kernel_rfl) (by kernel_rfl) rfl ⟨by decide, rfl⟩ (by first | exact Yld.pure rfl nrmQ | exact Yld.rem rfl rfl rfl rfl (by omega) (by omega) | exact Yld.quo rfl rfl rfl rfl (by omega) (by omega) nrmQ | exact Yld.eqlB rfl rfl rfl rfl | exact Yld.neqB rfl rfl rfl rfl | exact Yld.eqlA 4 rfl rfl rfl (by kernel_rfl) (by kernel_rfl) rfl rfl | exact Yld.neqA 4 rfl rfl rfl (by kernel_rfl) (by kernel_rfl) rfl rfl | exact Yld.quoT rfl rfl rfl rfl (by omega) nrmQ) ?_
          refine WA.one 8 (by kernel_rfl) rfl rfl ?_
          refine StepTo.callN [] (us := [.agg #[.int .u32 cum, .slice A' ps.length c'], .int .i64 (k3 - 1)]) rfl rfl rfl rfl rfl (by kernel_rfl) (fun w hw => drop_w cum A' ps.length c' ps (k3 - 1) w (hw.lst 1 Pc.cs_len (by omega) rfl) hok (by omega)) ?_
          rintro v N ⟨A7, c7, A8, c8, hok7, rfl, rfl⟩
          refine ⟨⟨[4], by decide, rfl⟩, ?_⟩
          refine WA.take (idx := [4]) 9 rfl (by kernel_rfl) (by kernel_rfl) (by kernel_rfl) rfl ⟨by decide, rfl⟩ (Yld.pure rfl nrmQ) ?_
          refine WA.take (idx := [4]) 10 rfl (by kernel_rfl) (by kernel_rfl) (by kernel_rfl) rfl ⟨by decide, rfl⟩ (Yld.pure rfl nrmQ) ?_
          refine WA.take (idx := [4]) 11 rfl (by kernel_rfl) (by kernel_rfl) (by kernel_rfl) rfl ⟨by decide, rfl⟩ (Yld.pure rfl nrmQ) ?_
          refine WA.one 12 (by kernel_rfl) rfl rfl ?_
          first | refine StepTo.store1 0 rfl rfl rfl rfl rfl rfl rfl overQ setQ ⟨⟨[4], by decide, rfl⟩, ?_⟩ | refine StepTo.storeA 0 rfl rfl rfl rfl rfl rfl rfl rfl overQ setQ ⟨⟨[4], by decide, rfl⟩, ?_⟩ | refine StepTo.storeRow 0 rfl rfl rfl rfl rfl rfl rfl rfl (by omega) setQ ⟨⟨[4], by decide, rfl⟩, ?_⟩ | refine StepTo.store1 1 rfl rfl rfl rfl rfl rfl rfl overQ setQ ⟨⟨[4], by decide, rfl⟩, ?_⟩ | refine StepTo.storeA 1 rfl rfl rfl rfl rfl rfl rfl rfl overQ setQ ⟨⟨[4], by decide, rfl⟩, ?_⟩ | refine StepTo.storeRow 1 rfl rfl rfl rfl rfl rfl rfl rfl (by omega) setQ ⟨⟨[4], by decide, rfl⟩, ?_⟩ | refine StepTo.store1 2 rfl rfl rfl rfl rfl rfl rfl overQ setQ ⟨⟨[4], by decide, rfl⟩, ?_⟩ | refine StepTo.storeA 2 rfl rfl rfl rfl rfl rfl rfl rfl overQ setQ ⟨⟨[4], by decide, rfl⟩, ?_⟩ | refine StepTo.storeRow 2 rfl rfl rfl rfl rfl rfl rfl rfl (by omega) setQ ⟨⟨[4], by decide, rfl⟩, ?_⟩ | refine StepTo.store1 3 rfl rfl rfl rfl rfl rfl rfl overQ setQ ⟨⟨[4], by decide, rfl⟩, ?_⟩ | refine StepTo.storeA 3 rfl rfl rfl rfl rfl rfl rfl rfl overQ setQ ⟨⟨[4], by decide, rfl⟩, ?_⟩ | refine StepTo.storeRow 3 rfl rfl rfl rfl rfl rfl rfl rfl (by omega) setQ ⟨⟨[4], by decide, rfl⟩, ?_⟩ | refine StepTo.store1 4 rfl rfl rfl rfl rfl rfl rfl overQ setQ ⟨⟨[4], by decide, rfl⟩, ?_⟩ | refine StepTo.storeA 4 rfl rfl rfl rfl rfl rfl rfl rfl overQ setQ ⟨⟨[4], by decide, rfl⟩, ?_⟩ | refine StepTo.storeRow 4 rfl rfl rfl rfl rfl rfl rfl rfl (by omega) setQ ⟨⟨[4], by decide, rfl⟩, ?_⟩
          refine WA.done (by kernel_rfl) ?_
          refine WQ.capRow 0 rfl fun hcap7 => ?_
          refine WQ.rowVw 0 rfl (by omega) ?_
          rw [← hdl] at hok7 hcap7 ⊢
          repeat' (first
    | with_reducible refine WL.nil ?_
    | with_reducible refine WQ.thenN ?_
    | with_reducible refine WQ.code ?_
    | with_reducible refine WC.seq ?_
    | with_reducible refine WC.region ?_
    | ((with_reducible refine WL.isN_move ?_); first | refine WL.yld rfl (Yld.pure rfl nrmQ) ?_)
    | ((with_reducible refine WL.isN_assign ?_); first | refine WL.yld rfl (Yld.pure rfl nrmQ) ?_)
    | ((with_reducible refine WL.isN_bin ?_); first | refine WL.yld rfl (Yld.pure rfl nrmQ) ?_ | refine WL.yld rfl (Yld.rem rfl rfl rfl rfl (by omega) (by omega)) ?_ | refine WL.yld rfl (Yld.quo rfl rfl rfl rfl (by omega) (by omega) nrmQ) ?_ | refine WL.yld rfl (Yld.eqlB rfl rfl rfl rfl) ?_ | refine WL.yld rfl (Yld.neqB rfl rfl rfl rfl) ?_ | refine WL.yld rfl (Yld.eqlA 4 rfl rfl rfl (by kernel_rfl) (by kernel_rfl) rfl rfl) ?_ | refine WL.yld rfl (Yld.neqA 4 rfl rfl rfl (by kernel_rfl) (by kernel_rfl) rfl rfl) ?_ | refine WL.yld rfl (Yld.quoT rfl rfl rfl rfl (by omega) nrmQ) ?_)
    | ((with_reducible refine WL.isN_un ?_); first | refine WL.yld rfl (Yld.pure rfl nrmQ) ?_)
    | ((with_reducible refine WL.isN_extract ?_); first | refine WL.yld rfl (Yld.pure rfl nrmQ) ?_)
    | ((with_reducible refine WL.isN_load ?_); first | refine WL.yld rfl (Yld.load rfl rfl rfl rfl cellQ) ?_ | refine WL.yld rfl (Yld.loadAgg rfl rfl rfl rfl rfl aggQ) ?_)
    | ((with_reducible refine WL.isN_faddr ?_); first | refine WL.yld rfl (Yld.fieldAddr rfl rfl rfl rfl rfl rfl rfl) ?_)
    | ((with_reducible refine WL.isN_iaddr ?_); first | refine WL.yld rfl (Yld.indexS 0 rfl rfl rfl rfl rfl rfl (by omega)) ?_ | refine WL.yld rfl (Yld.indexS 1 rfl rfl rfl rfl rfl rfl (by omega)) ?_ | refine WL.yld rfl (Yld.indexS 2 rfl rfl rfl rfl rfl rfl (by omega)) ?_ | refine WL.yld rfl (Yld.indexS _ rfl rfl rfl rfl rfl rfl (by omega)) ?_ | refine WL.yld rfl (Yld.indexA 0 rfl rfl rfl rfl rfl rfl (by omega)) ?_ | refine WL.yld rfl (Yld.indexA 1 rfl rfl rfl rfl rfl rfl (by omega)) ?_ | refine WL.yld rfl (Yld.indexA _ rfl rfl rfl rfl rfl rfl (by omega)) ?_)
    | ((with_reducible refine WL.isN_conv ?_); first | refine WL.yld rfl (Yld.convInt rfl rfl rfl rfl nrmQ) ?_)
    | ((with_reducible refine WL.isN_build ?_); first | refine WL.yld rfl (Yld.build rfl rfl rfl) ?_)
    | ((with_reducible refine WL.isN_pick ?_); first | refine WL.yld rfl (Yld.pickT rfl rfl rfl) ?_ | refine WL.yld rfl (Yld.pickF rfl rfl rfl) ?_ | refine WL.yld rfl (Yld.pickTh rfl rfl gdQ rfl) ?_ | refine WL.yld rfl (Yld.pickFh rfl rfl gdQ rfl) ?_ | refine WL.yld rfl (Yld.pickB rfl rfl rfl rfl) ?_)
    | ((with_reducible refine WL.isN_call ?_); first | refine WL.yld rfl (Yld.lenSlice rfl rfl rfl) ?_ | refine WL.yld rfl (Yld.lenStr rfl rfl rfl) ?_)
    | ((with_reducible refine WL.isT ?_); first | refine WL.skipT rfl rfl rfl rfl gdQ ?_ | refine WL.skipU rfl rfl rfl rfl ?_ | refine WL.runT rfl rfl rfl gdQ ?_)
    | ((with_reducible refine WL.isF ?_); first | refine WL.skipF rfl rfl rfl rfl gdQ ?_ | refine WL.skipU rfl rfl rfl rfl ?_ | refine WL.runF rfl rfl rfl gdQ ?_)
    | ((with_reducible refine WL.isN_alloc ?_); first | refine WL.step rfl (StepTo.allocA rfl rfl rfl rfl (fun _ => ?_)) | refine WL.step rfl (StepTo.alloc1 rfl rfl rfl rfl rfl (fun _ => ?_)))
    | ((with_reducible refine WL.isN_store ?_); first | refine WL.step rfl (StepTo.st1 rfl rfl rfl rfl rfl rfl ?_) | refine WL.step rfl (StepTo.stA rfl rfl rfl rfl rfl rfl rfl ?_) | refine WL.step rfl (StepTo.stR rfl rfl rfl rfl rfl rfl rfl ?_))
    | ((with_reducible refine WL.isN_bslice ?_); first | refine WL.step rfl (StepTo.buildSlice rfl rfl rfl rfl rfl rfl rfl rfl rfl rfl cellsOfQ (fun _ => ?_)))
    | with_reducible refine WC.block ?_
    | with_reducible refine WC.scope ?_
    | with_reducible refine WC.label ?_
    | with_reducible refine WQ.ngN ?_
    | with_reducible refine WQ.ngR ?_
    | with_reducible refine WQ.ngX ?_
    | with_reducible refine WC.skip ?_
    | with_reducible refine WC.ret ?_
    | with_reducible refine WC.exit ?_
    | with_reducible refine WQ.thenR ?_
    | with_reducible refine WQ.thenX ?_
    | with_reducible refine WQ.blkN ?_
    | with_reducible refine WQ.blkR ?_
    | ((with_reducible refine WQ.blkX ?_ ?_); focus rfl)
    | ((with_reducible refine WQ.blkY ?_ ?_); focus rfl)
    | refine WC.condT rfl ?_
    | refine WC.condF rfl ?_
    | refine WC.condTh rfl gdQ ?_
    | refine WC.condFh rfl gdQ ?_
    | (refine WC.cond rfl (fun hc => ?_) (fun hc => ?_) <;> (try first | (with_reducible replace hc := of_decide_eq_true hc) | (with_reducible replace hc := of_decide_eq_false hc) | (with_reducible replace hc := eqT hc) | (with_reducible replace hc := eqF hc) | (with_reducible replace hc := neT hc) | (with_reducible replace hc := neF hc) | (with_reducible replace hc := noT hc) | (with_reducible replace hc := noF hc)) <;> (try (exfalso; omega))))
          exact WQ.met _ _ [2, 0, 4] (by repeat (first | exact Sub.nil | refine Sub.cons rfl ?_ | refine Sub.consE rfl (int_eq (by omega)) ?_)) ⟨by decide, rfl⟩ ⟨A7, c7, cum, next, dn, all, ps.map (drop1 ((k3 : Int) - 1)), (hP.drop _).up (by omega), hnb, hdb, hok7, hcap7, rfl, rfl⟩
        · refine StepTo.callV (us := [.int .i64 a.path, .int .i64 3]) rfl rfl rfl rfl rfl (by kernel_rfl) (fun w _ => hck3 w) ⟨⟨[2], by decide, rfl⟩, ?_⟩
          refine WA.take (idx := [2]) 7 rfl (by kernel_rfl) (by kernel_rfl) (by kernel_rfl) rfl ⟨by decide, rfl⟩ (by first | exact Yld.pure rfl nrmQ | exact Yld.rem rfl rfl rfl rfl (by omega) (by omega) | exact Yld.quo rfl rfl rfl rfl (by omega) (by omega) nrmQ | exact Yld.eqlB rfl rfl rfl rfl | exact Yld.neqB rfl rfl rfl rfl | exact Yld.eqlA 4 rfl rfl rfl (by kernel_rfl) (by kernel_rfl) rfl rfl | exact Yld.neqA 4 rfl rfl rfl (by kernel_rfl) (by kernel_rfl) rfl rfl | exact Yld.quoT rfl rfl rfl rfl (by omega) nrmQ) ?_
          refine WA.one 0 (by kernel_rfl) rfl rfl ?_
          refine StepTo.yld (by first | exact Yld.load rfl rfl rfl rfl cellQ | exact Yld.loadAgg rfl rfl rfl rfl rfl aggQ) rfl ⟨⟨[2], by decide, rfl⟩, ?_⟩
          refine WA.one 8 (by kernel_rfl) rfl rfl ?_
          refine StepTo.callN [] (us := [.agg #[.int .u32 cum, .slice A' ps.length c'], .int .i64 (k3 - 1)]) rfl rfl rfl rfl rfl (by kernel_rfl) (fun w hw => drop_w cum A' ps.length c' ps (k3 - 1) w (hw.lst 1 Pc.cs_len (by omega) rfl) hok (by omega)) ?_
          rintro v N ⟨A7, c7, A8, c8, hok7, rfl, rfl⟩
          refine ⟨⟨[4], by decide, rfl⟩, ?_⟩
          refine WA.take (idx := [4]) 9 rfl (by kernel_rfl) (by kernel_rfl) (by kernel_rfl) rfl ⟨by decide, rfl⟩ (Yld.pure rfl nrmQ) ?_
          refine WA.take (idx := [4]) 10 rfl (by kernel_rfl) (by kernel_rfl) (by kernel_rfl) rfl ⟨by decide, rfl⟩ (Yld.pure rfl nrmQ) ?_
          refine WA.take (idx := [4]) 11 rfl (by kernel_rfl) (by kernel_rfl) (by kernel_rfl) rfl ⟨by decide, rfl⟩ (Yld.pure rfl nrmQ) ?_
          refine WA.one 12 (by kernel_rfl) rfl rfl ?_
          first | refine StepTo.store1 0 rfl rfl rfl rfl rfl rfl rfl overQ setQ ⟨⟨[4], by decide, rfl⟩, ?_⟩ | refine StepTo.storeA 0 rfl rfl rfl rfl rfl rfl rfl rfl overQ setQ ⟨⟨[4], by decide, rfl⟩, ?_⟩ | refine StepTo.storeRow 0 rfl rfl rfl rfl rfl rfl rfl rfl (by omega) setQ ⟨⟨[4], by decide, rfl⟩, ?_⟩ | refine StepTo.store1 1 rfl rfl rfl rfl rfl rfl rfl overQ setQ ⟨⟨[4], by decide, rfl⟩, ?_⟩ | refine StepTo.storeA 1 rfl rfl rfl rfl rfl rfl rfl rfl overQ setQ ⟨⟨[4], by decide, rfl⟩, ?_⟩ | refine StepTo.storeRow 1 rfl rfl rfl rfl rfl rfl rfl rfl (by omega) setQ ⟨⟨[4], by decide, rfl⟩, ?_⟩ | refine StepTo.store1 2 rfl rfl rfl rfl rfl rfl rfl overQ setQ ⟨⟨[4], by decide, rfl⟩, ?_⟩ | refine StepTo.storeA 2 rfl rfl rfl rfl rfl rfl rfl rfl overQ setQ ⟨⟨[4], by decide, rfl⟩, ?_⟩ | refine StepTo.storeRow 2 rfl rfl rfl rfl rfl rfl rfl rfl (by omega) setQ ⟨⟨[4], by decide, rfl⟩, ?_⟩ | refine StepTo.store1 3 rfl rfl rfl rfl rfl rfl rfl overQ setQ ⟨⟨[4], by decide, rfl⟩, ?_⟩ | refine StepTo.storeA 3 rfl rfl rfl rfl rfl rfl rfl rfl overQ setQ ⟨⟨[4], by decide, rfl⟩, ?_⟩ | refine StepTo.storeRow 3 rfl rfl rfl rfl rfl rfl rfl rfl (by omega) setQ ⟨⟨[4], by decide, rfl⟩, ?_⟩ | refine StepTo.store1 4 rfl rfl rfl rfl rfl rfl rfl overQ setQ ⟨⟨[4], by decide, rfl⟩, ?_⟩ | refine StepTo.storeA 4 rfl rfl rfl rfl rfl rfl rfl rfl overQ setQ ⟨⟨[4], by decide, rfl⟩, ?_⟩ | refine StepTo.storeRow 4 rfl rfl rfl rfl rfl rfl rfl rfl (by omega) setQ ⟨⟨[4], by decide, rfl⟩, ?_⟩
          refine WA.done (by kernel_rfl) ?_
          refine WQ.capRow 0 rfl fun hcap7 => ?_
          refine WQ.rowVw 0 rfl (by omega) ?_
          rw [← hdl] at hok7 hcap7 ⊢
          repeat' (first
    | with_reducible refine WL.nil ?_
    | with_reducible refine WQ.thenN ?_
    | with_reducible refine WQ.code ?_
    | with_reducible refine WC.seq ?_
    | with_reducible refine WC.region ?_
    | ((with_reducible refine WL.isN_move ?_); first | refine WL.yld rfl (Yld.pure rfl nrmQ) ?_)
    | ((with_reducible refine WL.isN_assign ?_); first | refine WL.yld rfl (Yld.pure rfl nrmQ) ?_)
    | ((with_reducible refine WL.isN_bin ?_); first | refine WL.yld rfl (Yld.pure rfl nrmQ) ?_ | refine WL.yld rfl (Yld.rem rfl rfl rfl rfl (by omega) (by omega)) ?_ | refine WL.yld rfl (Yld.quo rfl rfl rfl rfl (by omega) (by omega) nrmQ) ?_ | refine WL.yld rfl (Yld.eqlB rfl rfl rfl rfl) ?_ | refine WL.yld rfl (Yld.neqB rfl rfl rfl rfl) ?_ | refine WL.yld rfl (Yld.eqlA 4 rfl rfl rfl (by kernel_rfl) (by kernel_rfl) rfl rfl) ?_ | refine WL.yld rfl (Yld.neqA 4 rfl rfl rfl (by kernel_rfl) (by kernel_rfl) rfl rfl) ?_ | refine WL.yld rfl (Yld.quoT rfl rfl rfl rfl (by omega) nrmQ) ?_)
    | ((with_reducible refine WL.isN_un ?_); first | refine WL.yld rfl (Yld.pure rfl nrmQ) ?_)
    | ((with_reducible refine WL.isN_extract ?_); first | refine WL.yld rfl (Yld.pure rfl nrmQ) ?_)
    | ((with_reducible refine WL.isN_load ?_); first | refine WL.yld rfl (Yld.load rfl rfl rfl rfl cellQ) ?_ | refine WL.yld rfl (Yld.loadAgg rfl rfl rfl rfl rfl aggQ) ?_)
    | ((with_reducible refine WL.isN_faddr ?_); first | refine WL.yld rfl (Yld.fieldAddr rfl rfl rfl rfl rfl rfl rfl) ?_)
    | ((with_reducible refine WL.isN_iaddr ?_); first | refine WL.yld rfl (Yld.indexS 0 rfl rfl rfl rfl rfl rfl (by omega)) ?_ | refine WL.yld rfl (Yld.indexS 1 rfl rfl rfl rfl rfl rfl (by omega)) ?_ | refine WL.yld rfl (Yld.indexS 2 rfl rfl rfl rfl rfl rfl (by omega)) ?_ | refine WL.yld rfl (Yld.indexS _ rfl rfl rfl rfl rfl rfl (by omega)) ?_ | refine WL.yld rfl (Yld.indexA 0 rfl rfl rfl rfl rfl rfl (by omega)) ?_ | refine WL.yld rfl (Yld.indexA 1 rfl rfl rfl rfl rfl rfl (by omega)) ?_ | refine WL.yld rfl (Yld.indexA _ rfl rfl rfl rfl rfl rfl (by omega)) ?_)
    | ((with_reducible refine WL.isN_conv ?_); first | refine WL.yld rfl (Yld.convInt rfl rfl rfl rfl nrmQ) ?_)
    | ((with_reducible refine WL.isN_build ?_); first | refine WL.yld rfl (Yld.build rfl rfl rfl) ?_)
    | ((with_reducible refine WL.isN_pick ?_); first | refine WL.yld rfl (Yld.pickT rfl rfl rfl) ?_ | refine WL.yld rfl (Yld.pickF rfl rfl rfl) ?_ | refine WL.yld rfl (Yld.pickTh rfl rfl gdQ rfl) ?_ | refine WL.yld rfl (Yld.pickFh rfl rfl gdQ rfl) ?_ | refine WL.yld rfl (Yld.pickB rfl rfl rfl rfl) ?_)
    | ((with_reducible refine WL.isN_call ?_); first | refine WL.yld rfl (Yld.lenSlice rfl rfl rfl) ?_ | refine WL.yld rfl (Yld.lenStr rfl rfl rfl) ?_)
    | ((with_reducible refine WL.isT ?_); first | refine WL.skipT rfl rfl rfl rfl gdQ ?_ | refine WL.skipU rfl rfl rfl rfl ?_ | refine WL.runT rfl rfl rfl gdQ ?_)
    | ((with_reducible refine WL.isF ?_); first | refine WL.skipF rfl rfl rfl rfl gdQ ?_ | refine WL.skipU rfl rfl rfl rfl ?_ | refine WL.runF rfl rfl rfl gdQ ?_)
    | ((with_reducible refine WL.isN_alloc ?_); first | refine WL.step rfl (StepTo.allocA rfl rfl rfl rfl (fun _ => ?_)) | refine WL.step rfl (StepTo.alloc1 rfl rfl rfl rfl rfl (fun _ => ?_)))
    | ((with_reducible refine WL.isN_store ?_); first | refine WL.step rfl (StepTo.st1 rfl rfl rfl rfl rfl rfl ?_) | refine WL.step rfl (StepTo.stA rfl rfl rfl rfl rfl rfl rfl ?_) | refine WL.step rfl (StepTo.stR rfl rfl rfl rfl rfl rfl rfl ?_))
    | ((with_reducible refine WL.isN_bslice ?_); first | refine WL.step rfl (StepTo.buildSlice rfl rfl rfl rfl rfl rfl rfl rfl rfl rfl cellsOfQ (fun _ => ?_)))
    | with_reducible refine WC.block ?_
    | with_reducible refine WC.scope ?_
    | with_reducible refine WC.label ?_
    | with_reducible refine WQ.ngN ?_
    | with_reducible refine WQ.ngR ?_
    | with_reducible refine WQ.ngX ?_
    | with_reducible refine WC.skip ?_
    | with_reducible refine WC.ret ?_
    | with_reducible refine WC.exit ?_
    | with_reducible refine WQ.thenR ?_
    | with_reducible refine WQ.thenX ?_
    | with_reducible refine WQ.blkN ?_
    | with_reducible refine WQ.blkR ?_
    | ((with_reducible refine WQ.blkX ?_ ?_); focus rfl)
    | ((with_reducible refine WQ.blkY ?_ ?_); focus rfl)
    | refine WC.condT rfl ?_
    | refine WC.condF rfl ?_
    | refine WC.condTh rfl gdQ ?_
    | refine WC.condFh rfl gdQ ?_
    | (refine WC.cond rfl (fun hc => ?_) (fun hc => ?_) <;> (try first | (with_reducible replace hc := of_decide_eq_true hc) | (with_reducible replace hc := of_decide_eq_false hc) | (with_reducible replace hc := eqT hc) | (with_reducible replace hc := eqF hc) | (with_reducible replace hc := neT hc) | (with_reducible replace hc := neF hc) | (with_reducible replace hc := noT hc) | (with_reducible replace hc := noF hc)) <;> (try (exfalso; omega))))
          exact WQ.met _ _ [2, 0, 4] (by repeat (first | exact Sub.nil | refine Sub.cons rfl ?_ | refine Sub.consE rfl (int_eq (by omega)) ?_)) ⟨by decide, rfl⟩ ⟨A7, c7, cum, next, dn, all, ps.map (drop1 ((k3 : Int) - 1)), (hP.drop _).up (by omega), hnb, hdb, hok7, hcap7, rfl, rfl⟩
      · repeat' (first
    | with_reducible refine WL.nil ?_
    | with_reducible refine WQ.thenN ?_
    | with_reducible refine WQ.code ?_
    | with_reducible refine WC.seq ?_
    | with_reducible refine WC.region ?_
    | ((with_reducible refine WL.isN_move ?_); first | refine WL.yld rfl (Yld.pure rfl nrmQ) ?_)
    | ((with_reducible refine WL.isN_assign ?_); first | refine WL.yld rfl (Yld.pure rfl nrmQ) ?_)
    | ((with_reducible refine WL.isN_bin ?_); first | refine WL.yld rfl (Yld.pure rfl nrmQ) ?_ | refine WL.yld rfl (Yld.rem rfl rfl rfl rfl (by omega) (by omega)) ?_ | refine WL.yld rfl (Yld.quo rfl rfl rfl rfl (by omega) (by omega) nrmQ) ?_ | refine WL.yld rfl (Yld.eqlB rfl rfl rfl rfl) ?_ | refine WL.yld rfl (Yld.neqB rfl rfl rfl rfl) ?_ | refine WL.yld rfl (Yld.eqlA 4 rfl rfl rfl (by kernel_rfl) (by kernel_rfl) rfl rfl) ?_ | refine WL.yld rfl (Yld.neqA 4 rfl rfl rfl (by kernel_rfl) (by kernel_rfl) rfl rfl) ?_ | refine WL.yld rfl (Yld.quoT rfl rfl rfl rfl (by omega) nrmQ) ?_)
    | ((with_reducible refine WL.isN_un ?_); first | refine WL.yld rfl (Yld.pure rfl nrmQ) ?_)
    | ((with_reducible refine WL.isN_extract ?_); first | refine WL.yld rfl (Yld.pure rfl nrmQ) ?_)
    | ((with_reducible refine WL.isN_load ?_); first | refine WL.yld rfl (Yld.load rfl rfl rfl rfl cellQ) ?_ | refine WL.yld rfl (Yld.loadAgg rfl rfl rfl rfl rfl aggQ) ?_)
    | ((with_reducible refine WL.isN_faddr ?_); first | refine WL.yld rfl (Yld.fieldAddr rfl rfl rfl rfl rfl rfl rfl) ?_)
    | ((with_reducible refine WL.isN_iaddr ?_); first | refine WL.yld rfl (Yld.indexS 0 rfl rfl rfl rfl rfl rfl (by omega)) ?_ | refine WL.yld rfl (Yld.indexS 1 rfl rfl rfl rfl rfl rfl (by omega)) ?_ | refine WL.yld rfl (Yld.indexS 2 rfl rfl rfl rfl rfl rfl (by omega)) ?_ | refine WL.yld rfl (Yld.indexS _ rfl rfl rfl rfl rfl rfl (by omega)) ?_ | refine WL.yld rfl (Yld.indexA 0 rfl rfl rfl rfl rfl rfl (by omega)) ?_ | refine WL.yld rfl (Yld.indexA 1 rfl rfl rfl rfl rfl rfl (by omega)) ?_ | refine WL.yld rfl (Yld.indexA _ rfl rfl rfl rfl rfl rfl (by omega)) ?_)
    | ((with_reducible refine WL.isN_conv ?_); first | refine WL.yld rfl (Yld.convInt rfl rfl rfl rfl nrmQ) ?_)
    | ((with_reducible refine WL.isN_build ?_); first | refine WL.yld rfl (Yld.build rfl rfl rfl) ?_)
    | ((with_reducible refine WL.isN_pick ?_); first | refine WL.yld rfl (Yld.pickT rfl rfl rfl) ?_ | refine WL.yld rfl (Yld.pickF rfl rfl rfl) ?_ | refine WL.yld rfl (Yld.pickTh rfl rfl gdQ rfl) ?_ | refine WL.yld rfl (Yld.pickFh rfl rfl gdQ rfl) ?_ | refine WL.yld rfl (Yld.pickB rfl rfl rfl rfl) ?_)
    | ((with_reducible refine WL.isN_call ?_); first | refine WL.yld rfl (Yld.lenSlice rfl rfl rfl) ?_ | refine WL.yld rfl (Yld.lenStr rfl rfl rfl) ?_)
    | ((with_reducible refine WL.isT ?_); first | refine WL.skipT rfl rfl rfl rfl gdQ ?_ | refine WL.skipU rfl rfl rfl rfl ?_ | refine WL.runT rfl rfl rfl gdQ ?_)
    | ((with_reducible refine WL.isF ?_); first | refine WL.skipF rfl rfl rfl rfl gdQ ?_ | refine WL.skipU rfl rfl rfl rfl ?_ | refine WL.runF rfl rfl rfl gdQ ?_)
    | ((with_reducible refine WL.isN_alloc ?_); first | refine WL.step rfl (StepTo.allocA rfl rfl rfl rfl (fun _ => ?_)) | refine WL.step rfl (StepTo.alloc1 rfl rfl rfl rfl rfl (fun _ => ?_)))
    | ((with_reducible refine WL.isN_store ?_); first | refine WL.step rfl (StepTo.st1 rfl rfl rfl rfl rfl rfl ?_) | refine WL.step rfl (StepTo.stA rfl rfl rfl rfl rfl rfl rfl ?_) | refine WL.step rfl (StepTo.stR rfl rfl rfl rfl rfl rfl rfl ?_))
    | ((with_reducible refine WL.isN_bslice ?_); first | refine WL.step rfl (StepTo.buildSlice rfl rfl rfl rfl rfl rfl rfl rfl rfl rfl cellsOfQ (fun _ => ?_)))
    | with_reducible refine WC.scope ?_
    | with_reducible refine WC.label ?_
    | with_reducible refine WQ.ngN ?_
    | with_reducible refine WQ.ngR ?_
    | with_reducible refine WQ.ngX ?_
    | with_reducible refine WC.skip ?_
    | with_reducible refine WC.ret ?_
    | with_reducible refine WC.exit ?_
    | with_reducible refine WQ.thenR ?_
    | with_reducible refine WQ.thenX ?_
    | with_reducible refine WQ.blkN ?_
    | with_reducible refine WQ.blkR ?_
    | ((with_reducible refine WQ.blkX ?_ ?_); focus rfl)
    | ((with_reducible refine WQ.blkY ?_ ?_); focus rfl)
    | refine WC.condT rfl ?_
    | refine WC.condF rfl ?_
    | refine WC.condTh rfl gdQ ?_
    | refine WC.condFh rfl gdQ ?_
    | (refine WC.cond rfl (fun hc => ?_) (fun hc => ?_) <;> (try first | (with_reducible replace hc := of_decide_eq_true hc) | (with_reducible replace hc := of_decide_eq_false hc) | (with_reducible replace hc := eqT hc) | (with_reducible replace hc := eqF hc) | (with_reducible replace hc := neT hc) | (with_reducible replace hc := neF hc) | (with_reducible replace hc := noT hc) | (with_reducible replace hc := noF hc)) <;> (try (exfalso; omega))))
        refine WC.block ?_
        repeat' (first
    | with_reducible refine WL.nil ?_
    | with_reducible refine WQ.thenN ?_
    | with_reducible refine WQ.code ?_
    | with_reducible refine WC.seq ?_
    | with_reducible refine WC.region ?_
    | ((with_reducible refine WL.isN_move ?_); first | refine WL.yld rfl (Yld.pure rfl nrmQ) ?_)
    | ((with_reducible refine WL.isN_assign ?_); first | refine WL.yld rfl (Yld.pure rfl nrmQ) ?_)
    | ((with_reducible refine WL.isN_bin ?_); first | refine WL.yld rfl (Yld.pure rfl nrmQ) ?_ | refine WL.yld rfl (Yld.rem rfl rfl rfl rfl (by omega) (by omega)) ?_ | refine WL.yld rfl (Yld.quo rfl rfl rfl rfl (by omega) (by omega) nrmQ) ?_ | refine WL.yld rfl (Yld.eqlB rfl rfl rfl rfl) ?_ | refine WL.yld rfl (Yld.neqB rfl rfl rfl rfl) ?_ | refine WL.yld rfl (Yld.eqlA 4 rfl rfl rfl (by kernel_rfl) (by kernel_rfl) rfl rfl) ?_ | refine WL.yld rfl (Yld.neqA 4 rfl rfl rfl (by kernel_rfl) (by kernel_rfl) rfl rfl) ?_ | refine WL.yld rfl (Yld.quoT rfl rfl rfl rfl (by omega) nrmQ) ?_)
    | ((with_reducible refine WL.isN_un ?_); first | refine WL.yld rfl (Yld.pure rfl nrmQ) ?_)
    | ((with_reducible refine WL.isN_extract ?_); first | refine WL.yld rfl (Yld.pure rfl nrmQ) ?_)
    | ((with_reducible refine WL.isN_load ?_); first | refine WL.yld rfl (Yld.load rfl rfl rfl rfl cellQ) ?_ | refine WL.yld rfl (Yld.loadAgg rfl rfl rfl rfl rfl aggQ) ?_)
    | ((with_reducible refine WL.isN_faddr ?_); first | refine WL.yld rfl (Yld.fieldAddr rfl rfl rfl rfl rfl rfl rfl) ?_)
    | ((with_reducible refine WL.isN_iaddr ?_); first | refine WL.yld rfl (Yld.indexS 0 rfl rfl rfl rfl rfl rfl (by omega)) ?_ | refine WL.yld rfl (Yld.indexS 1 rfl rfl rfl rfl rfl rfl (by omega)) ?_ | refine WL.yld rfl (Yld.indexS 2 rfl rfl rfl rfl rfl rfl (by omega)) ?_ | refine WL.yld rfl (Yld.indexS _ rfl rfl rfl rfl rfl rfl (by omega)) ?_ | refine WL.yld rfl (Yld.indexA 0 rfl rfl rfl rfl rfl rfl (by omega)) ?_ | refine WL.yld rfl (Yld.indexA 1 rfl rfl rfl rfl rfl rfl (by omega)) ?_ | refine WL.yld rfl (Yld.indexA _ rfl rfl rfl rfl rfl rfl (by omega)) ?_)
    | ((with_reducible refine WL.isN_conv ?_); first | refine WL.yld rfl (Yld.convInt rfl rfl rfl rfl nrmQ) ?_)
    | ((with_reducible refine WL.isN_build ?_); first | refine WL.yld rfl (Yld.build rfl rfl rfl) ?_)
    | ((with_reducible refine WL.isN_pick ?_); first | refine WL.yld rfl (Yld.pickT rfl rfl rfl) ?_ | refine WL.yld rfl (Yld.pickF rfl rfl rfl) ?_ | refine WL.yld rfl (Yld.pickTh rfl rfl gdQ rfl) ?_ | refine WL.yld rfl (Yld.pickFh rfl rfl gdQ rfl) ?_ | refine WL.yld rfl (Yld.pickB rfl rfl rfl rfl) ?_)
    | ((with_reducible refine WL.isN_call ?_); first | refine WL.step rfl (StepTo.callN [] (us := [.agg #[.int .u32 cum, .slice A' ps.length c']]) rfl rfl rfl rfl rfl (by kernel_rfl) (fun w hw => losses_w cum A' ps.length c' ps w (hw.lst 1 Pc.cs_len (by omega) rfl) (by omega)) ?_) | refine WL.yld rfl (Yld.lenSlice rfl rfl rfl) ?_ | refine WL.yld rfl (Yld.lenStr rfl rfl rfl) ?_)
    | ((with_reducible refine WL.isT ?_); first | refine WL.skipT rfl rfl rfl rfl gdQ ?_ | refine WL.skipU rfl rfl rfl rfl ?_ | refine WL.runT rfl rfl rfl gdQ ?_)
    | ((with_reducible refine WL.isF ?_); first | refine WL.skipF rfl rfl rfl rfl gdQ ?_ | refine WL.skipU rfl rfl rfl rfl ?_ | refine WL.runF rfl rfl rfl gdQ ?_)
    | ((with_reducible refine WL.isN_alloc ?_); first | refine WL.step rfl (StepTo.allocA rfl rfl rfl rfl (fun _ => ?_)) | refine WL.step rfl (StepTo.alloc1 rfl rfl rfl rfl rfl (fun _ => ?_)))
    | ((with_reducible refine WL.isN_store ?_); first | refine WL.step rfl (StepTo.st1 rfl rfl rfl rfl rfl rfl ?_) | refine WL.step rfl (StepTo.stA rfl rfl rfl rfl rfl rfl rfl ?_) | refine WL.step rfl (StepTo.stR rfl rfl rfl rfl rfl rfl rfl ?_))
    | ((with_reducible refine WL.isN_bslice ?_); first | refine WL.step rfl (StepTo.buildSlice rfl rfl rfl rfl rfl rfl rfl rfl rfl rfl cellsOfQ (fun _ => ?_)))
    | with_reducible refine WC.block ?_
    | with_reducible refine WC.scope ?_
    | with_reducible refine WC.label ?_
    | with_reducible refine WQ.ngN ?_
    | with_reducible refine WQ.ngR ?_
    | with_reducible refine WQ.ngX ?_
    | with_reducible refine WC.skip ?_
    | with_reducible refine WC.ret ?_
    | with_reducible refine WC.exit ?_
    | with_reducible refine WQ.thenR ?_
    | with_reducible refine WQ.thenX ?_
    | with_reducible refine WQ.blkN ?_
    | with_reducible refine WQ.blkR ?_
    | ((with_reducible refine WQ.blkX ?_ ?_); focus rfl)
    | ((with_reducible refine WQ.blkY ?_ ?_); focus rfl)
    | refine WC.condT rfl ?_
    | refine WC.condF rfl ?_
    | refine WC.condTh rfl gdQ ?_
    | refine WC.condFh rfl gdQ ?_
    | (refine WC.cond rfl (fun hc => ?_) (fun hc => ?_) <;> (try first | (with_reducible replace hc := of_decide_eq_true hc) | (with_reducible replace hc := of_decide_eq_false hc) | (with_reducible replace hc := eqT hc) | (with_reducible replace hc := eqF hc) | (with_reducible replace hc := neT hc) | (with_reducible replace hc := neF hc) | (with_reducible replace hc := noT hc) | (with_reducible replace hc := noF hc)) <;> (try (exfalso; omega))))
        rintro v N ⟨A5, c5, rfl, rfl⟩
        have hll := lostN_le ps
        cases hlo : lostN ps with
        | nil =>
          repeat' (first
    | with_reducible refine WL.nil ?_
    | with_reducible refine WQ.thenN ?_
    | with_reducible refine WQ.code ?_
    | with_reducible refine WC.seq ?_
    | with_reducible refine WC.region ?_
    | ((with_reducible refine WL.isN_move ?_); first | refine WL.yld rfl (Yld.pure rfl nrmQ) ?_)
    | ((with_reducible refine WL.isN_assign ?_); first | refine WL.yld rfl (Yld.pure rfl nrmQ) ?_)
    | ((with_reducible refine WL.isN_bin ?_); first | refine WL.yld rfl (Yld.pure rfl nrmQ) ?_ | refine WL.yld rfl (Yld.rem rfl rfl rfl rfl (by omega) (by omega)) ?_ | refine WL.yld rfl (Yld.quo rfl rfl rfl rfl (by omega) (by omega) nrmQ) ?_ | refine WL.yld rfl (Yld.eqlB rfl rfl rfl rfl) ?_ | refine WL.yld rfl (Yld.neqB rfl rfl rfl rfl) ?_ | refine WL.yld rfl (Yld.eqlA 4 rfl rfl rfl (by kernel_rfl) (by kernel_rfl) rfl rfl) ?_ | refine WL.yld rfl (Yld.neqA 4 rfl rfl rfl (by kernel_rfl) (by kernel_rfl) rfl rfl) ?_ | refine WL.yld rfl (Yld.quoT rfl rfl rfl rfl (by omega) nrmQ) ?_)
    | ((with_reducible refine WL.isN_un ?_); first | refine WL.yld rfl (Yld.pure rfl nrmQ) ?_)
    | ((with_reducible refine WL.isN_extract ?_); first | refine WL.yld rfl (Yld.pure rfl nrmQ) ?_)
    | ((with_reducible refine WL.isN_load ?_); first | refine WL.yld rfl (Yld.load rfl rfl rfl rfl cellQ) ?_ | refine WL.yld rfl (Yld.loadAgg rfl rfl rfl rfl rfl aggQ) ?_)
    | ((with_reducible refine WL.isN_faddr ?_); first | refine WL.yld rfl (Yld.fieldAddr rfl rfl rfl rfl rfl rfl rfl) ?_)
    | ((with_reducible refine WL.isN_iaddr ?_); first | refine WL.yld rfl (Yld.indexS 0 rfl rfl rfl rfl rfl rfl (by omega)) ?_ | refine WL.yld rfl (Yld.indexS 1 rfl rfl rfl rfl rfl rfl (by omega)) ?_ | refine WL.yld rfl (Yld.indexS 2 rfl rfl rfl rfl rfl rfl (by omega)) ?_ | refine WL.yld rfl (Yld.indexS _ rfl rfl rfl rfl rfl rfl (by omega)) ?_ | refine WL.yld rfl (Yld.indexA 0 rfl rfl rfl rfl rfl rfl (by omega)) ?_ | refine WL.yld rfl (Yld.indexA 1 rfl rfl rfl rfl rfl rfl (by omega)) ?_ | refine WL.yld rfl (Yld.indexA _ rfl rfl rfl rfl rfl rfl (by omega)) ?_)
    | ((with_reducible refine WL.isN_conv ?_); first | refine WL.yld rfl (Yld.convInt rfl rfl rfl rfl nrmQ) ?_)
    | ((with_reducible refine WL.isN_build ?_); first | refine WL.yld rfl (Yld.build rfl rfl rfl) ?_)
    | ((with_reducible refine WL.isN_pick ?_); first | refine WL.yld rfl (Yld.pickT rfl rfl rfl) ?_ | refine WL.yld rfl (Yld.pickF rfl rfl rfl) ?_ | refine WL.yld rfl (Yld.pickTh rfl rfl gdQ rfl) ?_ | refine WL.yld rfl (Yld.pickFh rfl rfl gdQ rfl) ?_ | refine WL.yld rfl (Yld.pickB rfl rfl rfl rfl) ?_)
    | ((with_reducible refine WL.isN_call ?_); first | refine WL.yld rfl (Yld.lenSlice rfl rfl rfl) ?_ | refine WL.yld rfl (Yld.lenStr rfl rfl rfl) ?_)
    | ((with_reducible refine WL.isT ?_); first | refine WL.skipT rfl rfl rfl rfl gdQ ?_ | refine WL.skipU rfl rfl rfl rfl ?_ | refine WL.runT rfl rfl rfl gdQ ?_)
    | ((with_reducible refine WL.isF ?_); first | refine WL.skipF rfl rfl rfl rfl gdQ ?_ | refine WL.skipU rfl rfl rfl rfl ?_ | refine WL.runF rfl rfl rfl gdQ ?_)
    | ((with_reducible refine WL.isN_alloc ?_); first | refine WL.step rfl (StepTo.allocA rfl rfl rfl rfl (fun _ => ?_)) | refine WL.step rfl (StepTo.alloc1 rfl rfl rfl rfl rfl (fun _ => ?_)))
    | ((with_reducible refine WL.isN_store ?_); first | refine WL.step rfl (StepTo.st1 rfl rfl rfl rfl rfl rfl ?_) | refine WL.step rfl (StepTo.stA rfl rfl rfl rfl rfl rfl rfl ?_) | refine WL.step rfl (StepTo.stR rfl rfl rfl rfl rfl rfl rfl ?_))
    | ((with_reducible refine WL.isN_bslice ?_); first | refine WL.step rfl (StepTo.buildSlice rfl rfl rfl rfl rfl rfl rfl rfl rfl rfl cellsOfQ (fun _ => ?_)))
    | with_reducible refine WC.block ?_
    | with_reducible refine WC.scope ?_
    | with_reducible refine WC.label ?_
    | with_reducible refine WQ.ngN ?_
    | with_reducible refine WQ.ngR ?_
    | with_reducible refine WQ.ngX ?_
    | with_reducible refine WC.skip ?_
    | with_reducible refine WC.ret ?_
    | with_reducible refine WC.exit ?_
    | with_reducible refine WQ.thenR ?_
    | with_reducible refine WQ.thenX ?_
    | with_reducible refine WQ.blkN ?_
    | with_reducible refine WQ.blkR ?_
    | ((with_reducible refine WQ.blkX ?_ ?_); focus rfl)
    | ((with_reducible refine WQ.blkY ?_ ?_); focus rfl)
    | refine WC.condT rfl ?_
    | refine WC.condF rfl ?_
    | refine WC.condTh rfl gdQ ?_
    | refine WC.condFh rfl gdQ ?_
    | (refine WC.cond rfl (fun hc => ?_) (fun hc => ?_) <;> (try first | (with_reducible replace hc := of_decide_eq_true hc) | (with_reducible replace hc := of_decide_eq_false hc) | (with_reducible replace hc := eqT hc) | (with_reducible replace hc := eqF hc) | (with_reducible replace hc := neT hc) | (with_reducible replace hc := neF hc) | (with_reducible replace hc := noT hc) | (with_reducible replace hc := noF hc)) <;> (try (exfalso; omega))))
          exact WQ.met _ _ [1, 2, 3] (by repeat (first | exact Sub.nil | refine Sub.cons rfl ?_ | refine Sub.consE rfl (int_eq (by omega)) ?_)) ⟨by decide, rfl⟩ ⟨A', c', cum, next, dn, all, ps, hP.up (by omega), hnb, hdb, hok, hcap, rfl, rfl⟩
        | cons x0 rest =>
          have hx0 : x0 ∈ lostN ps := by rw [hlo]; exact List.mem_cons_self ..
          unfold lostN at hx0
          obtain ⟨p0, hp0, hpe⟩ := List.mem_map.1 hx0
          obtain ⟨hpm, hp3⟩ := List.mem_filter.1 hp0
          have hfi : ps.findIdx (isLost x0) < ps.length := List.findIdx_lt_length.2 ⟨p0, hpm, by simp only [isLost, hpe, Bool.and_eq_true]; exact ⟨by simp, hp3⟩⟩
          obtain ⟨j, hj⟩ : ∃ j, ps.findIdx (isLost x0) = j := ⟨_, rfl⟩
          rw [hj] at hfi
          obtain ⟨pj, hpj⟩ : ∃ pj, ps[j]? = some pj := ⟨_, List.getElem?_eq_getElem hfi⟩
          have hP' := hP.again (now := i) hpj hk2p
          have hsl : (ps.set j (resent k2 i pj)).length = ps.length := List.length_set ..
          have hpl0 : PartAt (flat u32c (x0 :: rest)) (0 * 1) [.int .u32 x0] := PartAt.flat (ic_len .u32) rfl
          have hrl : (x0 :: rest).length ≤ ps.length := by rw [← hlo]; exact hll
          refine WL.rowVw 0 rfl (by omega) ?_
          refine WL.vwAt 0 rfl (by simp) fun b5 o5 hA5 => ?_
          subst hA5
          simp only [List.length_cons] at hrl ⊢
          repeat' (first
    | with_reducible refine WL.nil ?_
    | with_reducible refine WQ.thenN ?_
    | with_reducible refine WQ.code ?_
    | with_reducible refine WC.seq ?_
    | with_reducible refine WC.region ?_
    | ((with_reducible refine WL.isN_move ?_); first | refine WL.yld rfl (Yld.pure rfl nrmQ) ?_)
    | ((with_reducible refine WL.isN_assign ?_); first | refine WL.yld rfl (Yld.pure rfl nrmQ) ?_)
    | ((with_reducible refine WL.isN_bin ?_); first | refine WL.yld rfl (Yld.pure rfl nrmQ) ?_ | refine WL.yld rfl (Yld.rem rfl rfl rfl rfl (by omega) (by omega)) ?_ | refine WL.yld rfl (Yld.quo rfl rfl rfl rfl (by omega) (by omega) nrmQ) ?_ | refine WL.yld rfl (Yld.eqlB rfl rfl rfl rfl) ?_ | refine WL.yld rfl (Yld.neqB rfl rfl rfl rfl) ?_ | refine WL.yld rfl (Yld.eqlA 4 rfl rfl rfl (by kernel_rfl) (by kernel_rfl) rfl rfl) ?_ | refine WL.yld rfl (Yld.neqA 4 rfl rfl rfl (by kernel_rfl) (by kernel_rfl) rfl rfl) ?_ | refine WL.yld rfl (Yld.quoT rfl rfl rfl rfl (by omega) nrmQ) ?_)
    | ((with_reducible refine WL.isN_un ?_); first | refine WL.yld rfl (Yld.pure rfl nrmQ) ?_)
    | ((with_reducible refine WL.isN_extract ?_); first | refine WL.yld rfl (Yld.pure rfl nrmQ) ?_)
    | ((with_reducible refine WL.isN_load ?_); first | refine WL.yld rfl (Yld.load rfl rfl rfl rfl cellQ) ?_ | refine WL.yld rfl (Yld.loadAgg rfl rfl rfl rfl rfl aggQ) ?_)
    | ((with_reducible refine WL.isN_faddr ?_); first | refine WL.yld rfl (Yld.fieldAddr rfl rfl rfl rfl rfl rfl rfl) ?_)
    | ((with_reducible refine WL.isN_iaddr ?_); first | refine WL.yld rfl (Yld.indexS 0 rfl rfl rfl rfl rfl rfl (by omega)) ?_ | refine WL.yld rfl (Yld.indexS 1 rfl rfl rfl rfl rfl rfl (by omega)) ?_ | refine WL.yld rfl (Yld.indexS 2 rfl rfl rfl rfl rfl rfl (by omega)) ?_ | refine WL.yld rfl (Yld.indexS _ rfl rfl rfl rfl rfl rfl (by omega)) ?_ | refine WL.yld rfl (Yld.indexA 0 rfl rfl rfl rfl rfl rfl (by omega)) ?_ | refine WL.yld rfl (Yld.indexA 1 rfl rfl rfl rfl rfl rfl (by omega)) ?_ | refine WL.yld rfl (Yld.indexA _ rfl rfl rfl rfl rfl rfl (by omega)) ?_)
    | ((with_reducible refine WL.isN_conv ?_); first | refine WL.yld rfl (Yld.convInt rfl rfl rfl rfl nrmQ) ?_)
    | ((with_reducible refine WL.isN_build ?_); first | refine WL.yld rfl (Yld.build rfl rfl rfl) ?_)
    | ((with_reducible refine WL.isN_pick ?_); first | refine WL.yld rfl (Yld.pickT rfl rfl rfl) ?_ | refine WL.yld rfl (Yld.pickF rfl rfl rfl) ?_ | refine WL.yld rfl (Yld.pickTh rfl rfl gdQ rfl) ?_ | refine WL.yld rfl (Yld.pickFh rfl rfl gdQ rfl) ?_ | refine WL.yld rfl (Yld.pickB rfl rfl rfl rfl) ?_)
    | ((with_reducible refine WL.isN_call ?_); first | refine WL.yld rfl (Yld.lenSlice rfl rfl rfl) ?_ | refine WL.yld rfl (Yld.lenStr rfl rfl rfl) ?_)
    | ((with_reducible refine WL.isT ?_); first | refine WL.skipT rfl rfl rfl rfl gdQ ?_ | refine WL.skipU rfl rfl rfl rfl ?_ | refine WL.runT rfl rfl rfl gdQ ?_)
    | ((with_reducible refine WL.isF ?_); first | refine WL.skipF rfl rfl rfl rfl gdQ ?_ | refine WL.skipU rfl rfl rfl rfl ?_ | refine WL.runF rfl rfl rfl gdQ ?_)
    | ((with_reducible refine WL.isN_alloc ?_); first | refine WL.step rfl (StepTo.allocA rfl rfl rfl rfl (fun _ => ?_)) | refine WL.step rfl (StepTo.alloc1 rfl rfl rfl rfl rfl (fun _ => ?_)))
    | ((with_reducible refine WL.isN_store ?_); first | refine WL.step rfl (StepTo.st1 rfl rfl rfl rfl rfl rfl ?_) | refine WL.step rfl (StepTo.stA rfl rfl rfl rfl rfl rfl rfl ?_) | refine WL.step rfl (StepTo.stR rfl rfl rfl rfl rfl rfl rfl ?_))
    | ((with_reducible refine WL.isN_bslice ?_); first | refine WL.step rfl (StepTo.buildSlice rfl rfl rfl rfl rfl rfl rfl rfl rfl rfl cellsOfQ (fun _ => ?_)))
    | with_reducible refine WC.block ?_
    | with_reducible refine WC.scope ?_
    | with_reducible refine WC.label ?_
    | with_reducible refine WQ.ngN ?_
    | with_reducible refine WQ.ngR ?_
    | with_reducible refine WQ.ngX ?_
    | with_reducible refine WC.skip ?_
    | with_reducible refine WC.ret ?_
    | with_reducible refine WC.exit ?_
    | with_reducible refine WQ.thenR ?_
    | with_reducible refine WQ.thenX ?_
    | with_reducible refine WQ.blkN ?_
    | with_reducible refine WQ.blkR ?_
    | ((with_reducible refine WQ.blkX ?_ ?_); focus rfl)
    | ((with_reducible refine WQ.blkY ?_ ?_); focus rfl)
    | refine WC.condT rfl ?_
    | refine WC.condF rfl ?_
    | refine WC.condTh rfl gdQ ?_
    | refine WC.condFh rfl gdQ ?_
    | (refine WC.cond rfl (fun hc => ?_) (fun hc => ?_) <;> (try first | (with_reducible replace hc := of_decide_eq_true hc) | (with_reducible replace hc := of_decide_eq_false hc) | (with_reducible replace hc := eqT hc) | (with_reducible replace hc := eqF hc) | (with_reducible replace hc := neT hc) | (with_reducible replace hc := neF hc) | (with_reducible replace hc := noT hc) | (with_reducible replace hc := noF hc)) <;> (try (exfalso; omega))))
          refine WC.cut (fun τ H => ∃ (A2 : Option Addr) (c2 bu : Nat), okA A2 ps.length ∧ τ = [(1, .slice (some ⟨ba, oa, none⟩) n c), (6, .pointer (some ⟨bs, 0, none⟩)), (7, .int .u32 next), (8, .int .u32 dn), (9, .int .i64 all), (10, .int .i64 i), (25, .pointer (some ⟨bu, 0, none⟩)), (26, .bool true)] ∧
            H = [.box bu 25 [.int .u32 cum, .slice A2 ps.length c2], .row A2 ps.length c2 41 7 (flat Pc.cs (ps.set j (resent k2 i pj))), .box bs 25 [.int .u32 cum, .slice A' ps.length c'], .vw (some ⟨ba, oa, none⟩) n 6 (flat Act6.cs xs)]) ?_ ?_
          refine WC.anyI [1, 0, 3] (by kernel_rfl) ?_
          refine WA.take (idx := [1, 0, 3]) 0 rfl (by kernel_rfl) (by kernel_rfl) (by kernel_rfl) rfl ⟨by decide, rfl⟩ (by first | exact Yld.load rfl rfl rfl rfl cellQ | exact Yld.loadAgg rfl rfl rfl rfl rfl aggQ) ?_
          refine WA.take (idx := [1, 0, 3]) 1 rfl (by kernel_rfl) (by kernel_rfl) (by kernel_rfl) rfl ⟨by decide, rfl⟩ (Yld.pure rfl nrmQ) ?_
          refine WA.take (idx := [1, 0, 3]) 2 rfl (by kernel_rfl) (by kernel_rfl) (by kernel_rfl) rfl ⟨by decide, rfl⟩ (by first | exact Yld.indexS 0 rfl rfl rfl rfl rfl rfl (by omega) | exact Yld.indexS 1 rfl rfl rfl rfl rfl rfl (by omega) | exact Yld.indexS 2 rfl rfl rfl rfl rfl rfl (by omega) | exact Yld.indexS _ rfl rfl rfl rfl rfl rfl (by omega) | exact Yld.indexA 0 rfl rfl rfl rfl rfl rfl (by omega) | exact Yld.indexA 1 rfl rfl rfl rfl rfl rfl (by omega) | exact Yld.indexA _ rfl rfl rfl rfl rfl rfl (by omega)) ?_
          refine WA.take (idx := [1, 0, 3]) 3 rfl (by kernel_rfl) (by kernel_rfl) (by kernel_rfl) rfl ⟨by decide, rfl⟩ (by first | exact Yld.load rfl rfl rfl rfl cellQ | exact Yld.loadAgg rfl rfl rfl rfl rfl aggQ) ?_
          refine WA.take (idx := [1, 0, 3]) 4 rfl (by kernel_rfl) (by kernel_rfl) (by kernel_rfl) rfl ⟨by decide, rfl⟩ (Yld.pure rfl nrmQ) ?_
          refine WA.take (idx := [1, 0, 3]) 5 rfl (by kernel_rfl) (by kernel_rfl) (by kernel_rfl) rfl ⟨by decide, rfl⟩ (Yld.pure rfl nrmQ) ?_
          refine WA.take (idx := [1, 0, 3]) 6 rfl (by kernel_rfl) (by kernel_rfl) (by kernel_rfl) rfl ⟨by decide, rfl⟩ (by first | exact Yld.indexS 0 rfl rfl rfl rfl rfl rfl (by omega) | exact Yld.indexS 1 rfl rfl rfl rfl rfl rfl (by omega) | exact Yld.indexS 2 rfl rfl rfl rfl rfl rfl (by omega) | exact Yld.indexS _ rfl rfl rfl rfl rfl rfl (by omega) | exact Yld.indexA 0 rfl rfl rfl rfl rfl rfl (by omega) | exact Yld.indexA 1 rfl rfl rfl rfl rfl rfl (by omega) | exact Yld.indexA _ rfl rfl rfl rfl rfl rfl (by omega)) ?_
          refine WA.take (idx := [1, 0, 3]) 7 rfl (by kernel_rfl) (by kernel_rfl) (by kernel_rfl) rfl ⟨by decide, rfl⟩ (Yld.fieldAddr rfl rfl rfl rfl rfl rfl rfl) ?_
          refine WA.take (idx := [1, 0, 3]) 8 rfl (by kernel_rfl) (by kernel_rfl) (by kernel_rfl) rfl ⟨by decide, rfl⟩ (by first | exact Yld.load rfl rfl rfl rfl cellQ | exact Yld.loadAgg rfl rfl rfl rfl rfl aggQ) ?_
          refine WA.take (idx := [1, 0, 3]) 10 rfl (by kernel_rfl) (by kernel_rfl) (by kernel_rfl) rfl ⟨by decide, rfl⟩ (Yld.pure rfl nrmQ) ?_
          refine WA.two 9 15 (by kernel_rfl) rfl rfl rfl rfl ?_ ?_
          · refine StepTo.callV (us := [.int .i64 a.path, .int .i64 2]) rfl rfl rfl rfl rfl (by kernel_rfl) (fun w _ => hck2 w) ⟨⟨[1, 0, 3], by decide, rfl⟩, ?_⟩
            refine WA.two 11 15 (by kernel_rfl) rfl rfl rfl rfl ?_ ?_
            · refine StepTo.callN [] (us := [.agg #[.int .u32 cum, .slice A' ps.length c'], .int .u32 x0, .int .i64 k2, .int .i64 i]) rfl rfl rfl rfl rfl (by kernel_rfl) (fun w hw => again_yes cum A' ps.length c' ps x0 k2 i j pj w (hw.lst 2 Pc.cs_len (by omega) rfl) hok (by omega) hj hpj) ?_
              rintro v N ⟨A6, c6, hok6, rfl, rfl⟩
              refine ⟨⟨[2, 1, 4], by decide, rfl⟩, ?_⟩
              refine WA.take (idx := [2, 1, 4]) 12 rfl (by kernel_rfl) (by kernel_rfl) (by kernel_rfl) rfl ⟨by decide, rfl⟩ (Yld.pure rfl nrmQ) ?_
              refine WA.take (idx := [2, 1, 4]) 13 rfl (by kernel_rfl) (by kernel_rfl) (by kernel_rfl) rfl ⟨by decide, rfl⟩ (Yld.pure rfl nrmQ) ?_
              refine WA.take (idx := [2, 1, 4]) 14 rfl (by kernel_rfl) (by kernel_rfl) (by kernel_rfl) rfl ⟨by decide, rfl⟩ (Yld.pure rfl nrmQ) ?_
              refine WA.one 15 (by kernel_rfl) rfl rfl ?_
              first | refine StepTo.allocA rfl rfl rfl rfl (fun _ => ⟨⟨[3, 2, 5], by decide, rfl⟩, ?_⟩) | refine StepTo.alloc1 rfl rfl rfl rfl rfl (fun _ => ⟨⟨[3, 2, 5], by decide, rfl⟩, ?_⟩)
              refine WA.one 16 (by kernel_rfl) rfl rfl ?_
              first | refine StepTo.storeA 0 rfl rfl rfl rfl rfl rfl rfl rfl overQ setQ ⟨⟨[3, 2, 5], by decide, rfl⟩, ?_⟩ | refine StepTo.store1 0 rfl rfl rfl rfl rfl rfl rfl overQ setQ ⟨⟨[3, 2, 5], by decide, rfl⟩, ?_⟩
              refine WA.take (idx := [3, 2, 5]) 17 rfl (by kernel_rfl) (by kernel_rfl) (by kernel_rfl) rfl ⟨by decide, rfl⟩ (Yld.pure rfl nrmQ) ?_
              refine WA.done (by kernel_rfl) ?_
              exact WQ.thenN (WQ.met _ _ [0, 1, 3, 5] (by repeat (first | exact Sub.nil | refine Sub.cons rfl ?_ | refine Sub.consE rfl (int_eq (by omega)) ?_)) ⟨by decide, rfl⟩ ⟨A6, c6, _, hok6, rfl, rfl⟩)
            · first | refine StepTo.allocA rfl rfl rfl rfl (fun _ => ⟨⟨[2, 1, 4], by decide, rfl⟩, ?_⟩) | refine StepTo.alloc1 rfl rfl rfl rfl rfl (fun _ => ⟨⟨[2, 1, 4], by decide, rfl⟩, ?_⟩)
              refine WA.one 11 (by kernel_rfl) rfl rfl ?_
              refine StepTo.callN [] (us := [.agg #[.int .u32 cum, .slice A' ps.length c'], .int .u32 x0, .int .i64 k2, .int .i64 i]) rfl rfl rfl rfl rfl (by kernel_rfl) (fun w hw => again_yes cum A' ps.length c' ps x0 k2 i j pj w (hw.lst 3 Pc.cs_len (by omega) rfl) hok (by omega) hj hpj) ?_
              rintro v N ⟨A6, c6, hok6, rfl, rfl⟩
              refine ⟨⟨[3, 2, 5], by decide, rfl⟩, ?_⟩
              refine WA.take (idx := [3, 2, 5]) 12 rfl (by kernel_rfl) (by kernel_rfl) (by kernel_rfl) rfl ⟨by decide, rfl⟩ (Yld.pure rfl nrmQ) ?_
              refine WA.take (idx := [3, 2, 5]) 13 rfl (by kernel_rfl) (by kernel_rfl) (by kernel_rfl) rfl ⟨by decide, rfl⟩ (Yld.pure rfl nrmQ) ?_
              refine WA.take (idx := [3, 2, 5]) 14 rfl (by kernel_rfl) (by kernel_rfl) (by kernel_rfl) rfl ⟨by decide, rfl⟩ (Yld.pure rfl nrmQ) ?_
              refine WA.one 16 (by kernel_rfl) rfl rfl ?_
              first | refine StepTo.storeA 1 rfl rfl rfl rfl rfl rfl rfl rfl overQ setQ ⟨⟨[3, 2, 5], by decide, rfl⟩, ?_⟩ | refine StepTo.store1 1 rfl rfl rfl rfl rfl rfl rfl overQ setQ ⟨⟨[3, 2, 5], by decide, rfl⟩, ?_⟩
              refine WA.take (idx := [3, 2, 5]) 17 rfl (by kernel_rfl) (by kernel_rfl) (by kernel_rfl) rfl ⟨by decide, rfl⟩ (Yld.pure rfl nrmQ) ?_
              refine WA.done (by kernel_rfl) ?_
              exact WQ.thenN (WQ.met _ _ [1, 0, 3, 5] (by repeat (first | exact Sub.nil | refine Sub.cons rfl ?_ | refine Sub.consE rfl (int_eq (by omega)) ?_)) ⟨by decide, rfl⟩ ⟨A6, c6, _, hok6, rfl, rfl⟩)
          · first | refine StepTo.allocA rfl rfl rfl rfl (fun _ => ⟨⟨[2, 1, 4], by decide, rfl⟩, ?_⟩) | refine StepTo.alloc1 rfl rfl rfl rfl rfl (fun _ => ⟨⟨[2, 1, 4], by decide, rfl⟩, ?_⟩)
            refine WA.one 9 (by kernel_rfl) rfl rfl ?_
            refine StepTo.callV (us := [.int .i64 a.path, .int .i64 2]) rfl rfl rfl rfl rfl (by kernel_rfl) (fun w _ => hck2 w) ⟨⟨[2, 1, 4], by decide, rfl⟩, ?_⟩
            refine WA.one 11 (by kernel_rfl) rfl rfl ?_
            refine StepTo.callN [] (us := [.agg #[.int .u32 cum, .slice A' ps.length c'], .int .u32 x0, .int .i64 k2, .int .i64 i]) rfl rfl rfl rfl rfl (by kernel_rfl) (fun w hw => again_yes cum A' ps.length c' ps x0 k2 i j pj w (hw.lst 3 Pc.cs_len (by omega) rfl) hok (by omega) hj hpj) ?_
            rintro v N ⟨A6, c6, hok6, rfl, rfl⟩
            refine ⟨⟨[3, 2, 5], by decide, rfl⟩, ?_⟩
            refine WA.take (idx := [3, 2, 5]) 12 rfl (by kernel_rfl) (by kernel_rfl) (by kernel_rfl) rfl ⟨by decide, rfl⟩ (Yld.pure rfl nrmQ) ?_
            refine WA.take (idx := [3, 2, 5]) 13 rfl (by kernel_rfl) (by kernel_rfl) (by kernel_rfl) rfl ⟨by decide, rfl⟩ (Yld.pure rfl nrmQ) ?_
            refine WA.take (idx := [3, 2, 5]) 14 rfl (by kernel_rfl) (by kernel_rfl) (by kernel_rfl) rfl ⟨by decide, rfl⟩ (Yld.pure rfl nrmQ) ?_
            refine WA.one 16 (by kernel_rfl) rfl rfl ?_
            first | refine StepTo.storeA 1 rfl rfl rfl rfl rfl rfl rfl rfl overQ setQ ⟨⟨[3, 2, 5], by decide, rfl⟩, ?_⟩ | refine StepTo.store1 1 rfl rfl rfl rfl rfl rfl rfl overQ setQ ⟨⟨[3, 2, 5], by decide, rfl⟩, ?_⟩
            refine WA.take (idx := [3, 2, 5]) 17 rfl (by kernel_rfl) (by kernel_rfl) (by kernel_rfl) rfl ⟨by decide, rfl⟩ (Yld.pure rfl nrmQ) ?_
            refine WA.done (by kernel_rfl) ?_
            exact WQ.thenN (WQ.met _ _ [1, 0, 3, 5] (by repeat (first | exact Sub.nil | refine Sub.cons rfl ?_ | refine Sub.consE rfl (int_eq (by omega)) ?_)) ⟨by decide, rfl⟩ ⟨A6, c6, _, hok6, rfl, rfl⟩)
          rintro τ H ⟨A2, c2, bu, hok2, rfl, rfl⟩
          rw [← hsl] at hok2
          refine WC.capRow 1 rfl fun hcap2 => ?_
          refine WC.rowVw 1 rfl (by omega) ?_
          rw [← hsl] at hcap2
          repeat' (first
    | with_reducible refine WL.nil ?_
    | with_reducible refine WQ.thenN ?_
    | with_reducible refine WQ.code ?_
    | with_reducible refine WC.seq ?_
    | with_reducible refine WC.region ?_
    | ((with_reducible refine WL.isN_move ?_); first | refine WL.yld rfl (Yld.pure rfl nrmQ) ?_)
    | ((with_reducible refine WL.isN_assign ?_); first | refine WL.yld rfl (Yld.pure rfl nrmQ) ?_)
    | ((with_reducible refine WL.isN_bin ?_); first | refine WL.yld rfl (Yld.pure rfl nrmQ) ?_ | refine WL.yld rfl (Yld.rem rfl rfl rfl rfl (by omega) (by omega)) ?_ | refine WL.yld rfl (Yld.quo rfl rfl rfl rfl (by omega) (by omega) nrmQ) ?_ | refine WL.yld rfl (Yld.eqlB rfl rfl rfl rfl) ?_ | refine WL.yld rfl (Yld.neqB rfl rfl rfl rfl) ?_ | refine WL.yld rfl (Yld.eqlA 4 rfl rfl rfl (by kernel_rfl) (by kernel_rfl) rfl rfl) ?_ | refine WL.yld rfl (Yld.neqA 4 rfl rfl rfl (by kernel_rfl) (by kernel_rfl) rfl rfl) ?_ | refine WL.yld rfl (Yld.quoT rfl rfl rfl rfl (by omega) nrmQ) ?_)
    | ((with_reducible refine WL.isN_un ?_); first | refine WL.yld rfl (Yld.pure rfl nrmQ) ?_)
    | ((with_reducible refine WL.isN_extract ?_); first | refine WL.yld rfl (Yld.pure rfl nrmQ) ?_)
    | ((with_reducible refine WL.isN_load ?_); first | refine WL.yld rfl (Yld.load rfl rfl rfl rfl cellQ) ?_ | refine WL.yld rfl (Yld.loadAgg rfl rfl rfl rfl rfl aggQ) ?_)
    | ((with_reducible refine WL.isN_faddr ?_); first | refine WL.yld rfl (Yld.fieldAddr rfl rfl rfl rfl rfl rfl rfl) ?_)
    | ((with_reducible refine WL.isN_iaddr ?_); first | refine WL.yld rfl (Yld.indexS 0 rfl rfl rfl rfl rfl rfl (by omega)) ?_ | refine WL.yld rfl (Yld.indexS 1 rfl rfl rfl rfl rfl rfl (by omega)) ?_ | refine WL.yld rfl (Yld.indexS 2 rfl rfl rfl rfl rfl rfl (by omega)) ?_ | refine WL.yld rfl (Yld.indexS _ rfl rfl rfl rfl rfl rfl (by omega)) ?_ | refine WL.yld rfl (Yld.indexA 0 rfl rfl rfl rfl rfl rfl (by omega)) ?_ | refine WL.yld rfl (Yld.indexA 1 rfl rfl rfl rfl rfl rfl (by omega)) ?_ | refine WL.yld rfl (Yld.indexA _ rfl rfl rfl rfl rfl rfl (by omega)) ?_)
    | ((with_reducible refine WL.isN_conv ?_); first | refine WL.yld rfl (Yld.convInt rfl rfl rfl rfl nrmQ) ?_)
    | ((with_reducible refine WL.isN_build ?_); first | refine WL.yld rfl (Yld.build rfl rfl rfl) ?_)
    | ((with_reducible refine WL.isN_pick ?_); first | refine WL.yld rfl (Yld.pickT rfl rfl rfl) ?_ | refine WL.yld rfl (Yld.pickF rfl rfl rfl) ?_ | refine WL.yld rfl (Yld.pickTh rfl rfl gdQ rfl) ?_ | refine WL.yld rfl (Yld.pickFh rfl rfl gdQ rfl) ?_ | refine WL.yld rfl (Yld.pickB rfl rfl rfl rfl) ?_)
    | ((with_reducible refine WL.isN_call ?_); first | refine WL.yld rfl (Yld.lenSlice rfl rfl rfl) ?_ | refine WL.yld rfl (Yld.lenStr rfl rfl rfl) ?_)
    | ((with_reducible refine WL.isT ?_); first | refine WL.skipT rfl rfl rfl rfl gdQ ?_ | refine WL.skipU rfl rfl rfl rfl ?_ | refine WL.runT rfl rfl rfl gdQ ?_)
    | ((with_reducible refine WL.isF ?_); first | refine WL.skipF rfl rfl rfl rfl gdQ ?_ | refine WL.skipU rfl rfl rfl rfl ?_ | refine WL.runF rfl rfl rfl gdQ ?_)
    | ((with_reducible refine WL.isN_alloc ?_); first | refine WL.step rfl (StepTo.allocA rfl rfl rfl rfl (fun _ => ?_)) | refine WL.step rfl (StepTo.alloc1 rfl rfl rfl rfl rfl (fun _ => ?_)))
    | ((with_reducible refine WL.isN_store ?_); first | refine WL.step rfl (StepTo.st1 rfl rfl rfl rfl rfl rfl ?_) | refine WL.step rfl (StepTo.stA rfl rfl rfl rfl rfl rfl rfl ?_) | refine WL.step rfl (StepTo.stR rfl rfl rfl rfl rfl rfl rfl ?_))
    | ((with_reducible refine WL.isN_bslice ?_); first | refine WL.step rfl (StepTo.buildSlice rfl rfl rfl rfl rfl rfl rfl rfl rfl rfl cellsOfQ (fun _ => ?_)))
    | with_reducible refine WC.block ?_
    | with_reducible refine WC.scope ?_
    | with_reducible refine WC.label ?_
    | with_reducible refine WQ.ngN ?_
    | with_reducible refine WQ.ngR ?_
    | with_reducible refine WQ.ngX ?_
    | with_reducible refine WC.skip ?_
    | with_reducible refine WC.ret ?_
    | with_reducible refine WC.exit ?_
    | with_reducible refine WQ.thenR ?_
    | with_reducible refine WQ.thenX ?_
    | with_reducible refine WQ.blkN ?_
    | with_reducible refine WQ.blkR ?_
    | ((with_reducible refine WQ.blkX ?_ ?_); focus rfl)
    | ((with_reducible refine WQ.blkY ?_ ?_); focus rfl)
    | refine WC.condT rfl ?_
    | refine WC.condF rfl ?_
    | refine WC.condTh rfl gdQ ?_
    | refine WC.condFh rfl gdQ ?_
    | (refine WC.cond rfl (fun hc => ?_) (fun hc => ?_) <;> (try first | (with_reducible replace hc := of_decide_eq_true hc) | (with_reducible replace hc := of_decide_eq_false hc) | (with_reducible replace hc := eqT hc) | (with_reducible replace hc := eqF hc) | (with_reducible replace hc := neT hc) | (with_reducible replace hc := neF hc) | (with_reducible replace hc := noT hc) | (with_reducible replace hc := noF hc)) <;> (try (exfalso; omega))))
          rw [← hsl]
          exact WQ.met _ _ [2, 1, 3] (by repeat (first | exact Sub.nil | refine Sub.cons rfl ?_ | refine Sub.consE rfl (int_eq (by omega)) ?_)) ⟨by decide, rfl⟩ ⟨A2, c2, cum, next, dn, all, ps.set j (resent k2 i pj), hP'.up (by omega), hnb, hdb, hok2, hcap2, rfl, rfl⟩
    rintro τ H ⟨A2, c2, cum2, next2, dn2, all2, ps2, hP2, hnb2, hdb2, hok2, hcap2, rfl, rfl⟩
    have hmost2 := hP2.most
    have hsm2 := hP2.right.small
    have hnx2 := hP2.nx
    have hdn2 := hP2.dn
    have hall2 := hP2.allb
    have hcb2 := hP2.cumb
    have hsz2 := hP2.sizes
    have hz2 := sz_bounds ps2 hsm2
    have ht2 := under_two ps2 hP2.path
    have ub0 := underF_bounds 0 ps2 hsm2
    have ub1 := underF_bounds 1 ps2 hsm2
    repeat' (first
    | with_reducible refine WL.nil ?_
    | with_reducible refine WQ.thenN ?_
    | with_reducible refine WQ.code ?_
    | with_reducible refine WC.seq ?_
    | with_reducible refine WC.region ?_
    | ((with_reducible refine WL.isN_move ?_); first | refine WL.yld rfl (Yld.pure rfl nrmQ) ?_)
    | ((with_reducible refine WL.isN_assign ?_); first | refine WL.yld rfl (Yld.pure rfl nrmQ) ?_)
    | ((with_reducible refine WL.isN_bin ?_); first | refine WL.yld rfl (Yld.pure rfl nrmQ) ?_ | refine WL.yld rfl (Yld.rem rfl rfl rfl rfl (by omega) (by omega)) ?_ | refine WL.yld rfl (Yld.quo rfl rfl rfl rfl (by omega) (by omega) nrmQ) ?_ | refine WL.yld rfl (Yld.eqlB rfl rfl rfl rfl) ?_ | refine WL.yld rfl (Yld.neqB rfl rfl rfl rfl) ?_ | refine WL.yld rfl (Yld.eqlA 4 rfl rfl rfl (by kernel_rfl) (by kernel_rfl) rfl rfl) ?_ | refine WL.yld rfl (Yld.neqA 4 rfl rfl rfl (by kernel_rfl) (by kernel_rfl) rfl rfl) ?_ | refine WL.yld rfl (Yld.quoT rfl rfl rfl rfl (by omega) nrmQ) ?_)
    | ((with_reducible refine WL.isN_un ?_); first | refine WL.yld rfl (Yld.pure rfl nrmQ) ?_)
    | ((with_reducible refine WL.isN_extract ?_); first | refine WL.yld rfl (Yld.pure rfl nrmQ) ?_)
    | ((with_reducible refine WL.isN_load ?_); first | refine WL.yld rfl (Yld.load rfl rfl rfl rfl cellQ) ?_ | refine WL.yld rfl (Yld.loadAgg rfl rfl rfl rfl rfl aggQ) ?_)
    | ((with_reducible refine WL.isN_faddr ?_); first | refine WL.yld rfl (Yld.fieldAddr rfl rfl rfl rfl rfl rfl rfl) ?_)
    | ((with_reducible refine WL.isN_iaddr ?_); first | refine WL.yld rfl (Yld.indexS 0 rfl rfl rfl rfl rfl rfl (by omega)) ?_ | refine WL.yld rfl (Yld.indexS 1 rfl rfl rfl rfl rfl rfl (by omega)) ?_ | refine WL.yld rfl (Yld.indexS 2 rfl rfl rfl rfl rfl rfl (by omega)) ?_ | refine WL.yld rfl (Yld.indexS _ rfl rfl rfl rfl rfl rfl (by omega)) ?_ | refine WL.yld rfl (Yld.indexA 0 rfl rfl rfl rfl rfl rfl (by omega)) ?_ | refine WL.yld rfl (Yld.indexA 1 rfl rfl rfl rfl rfl rfl (by omega)) ?_ | refine WL.yld rfl (Yld.indexA _ rfl rfl rfl rfl rfl rfl (by omega)) ?_)
    | ((with_reducible refine WL.isN_conv ?_); first | refine WL.yld rfl (Yld.convInt rfl rfl rfl rfl nrmQ) ?_)
    | ((with_reducible refine WL.isN_build ?_); first | refine WL.yld rfl (Yld.build rfl rfl rfl) ?_)
    | ((with_reducible refine WL.isN_pick ?_); first | refine WL.yld rfl (Yld.pickT rfl rfl rfl) ?_ | refine WL.yld rfl (Yld.pickF rfl rfl rfl) ?_ | refine WL.yld rfl (Yld.pickTh rfl rfl gdQ rfl) ?_ | refine WL.yld rfl (Yld.pickFh rfl rfl gdQ rfl) ?_ | refine WL.yld rfl (Yld.pickB rfl rfl rfl rfl) ?_)
    | ((with_reducible refine WL.isN_call ?_); first | refine WL.yld rfl (Yld.lenSlice rfl rfl rfl) ?_ | refine WL.yld rfl (Yld.lenStr rfl rfl rfl) ?_)
    | ((with_reducible refine WL.isT ?_); first | refine WL.skipT rfl rfl rfl rfl gdQ ?_ | refine WL.skipU rfl rfl rfl rfl ?_ | refine WL.runT rfl rfl rfl gdQ ?_)
    | ((with_reducible refine WL.isF ?_); first | refine WL.skipF rfl rfl rfl rfl gdQ ?_ | refine WL.skipU rfl rfl rfl rfl ?_ | refine WL.runF rfl rfl rfl gdQ ?_)
    | ((with_reducible refine WL.isN_alloc ?_); first | refine WL.step rfl (StepTo.allocA rfl rfl rfl rfl (fun _ => ?_)) | refine WL.step rfl (StepTo.alloc1 rfl rfl rfl rfl rfl (fun _ => ?_)))
    | ((with_reducible refine WL.isN_store ?_); first | refine WL.step rfl (StepTo.st1 rfl rfl rfl rfl rfl rfl ?_) | refine WL.step rfl (StepTo.stA rfl rfl rfl rfl rfl rfl rfl ?_) | refine WL.step rfl (StepTo.stR rfl rfl rfl rfl rfl rfl rfl ?_))
    | ((with_reducible refine WL.isN_bslice ?_); first | refine WL.step rfl (StepTo.buildSlice rfl rfl rfl rfl rfl rfl rfl rfl rfl rfl cellsOfQ (fun _ => ?_)))
    | with_reducible refine WC.block ?_
    | with_reducible refine WC.scope ?_
    | with_reducible refine WC.label ?_
    | with_reducible refine WQ.ngN ?_
    | with_reducible refine WQ.ngR ?_
    | with_reducible refine WQ.ngX ?_
    | with_reducible refine WC.skip ?_
    | with_reducible refine WC.ret ?_
    | with_reducible refine WC.exit ?_
    | with_reducible refine WQ.thenR ?_
    | with_reducible refine WQ.thenX ?_
    | with_reducible refine WQ.blkN ?_
    | with_reducible refine WQ.blkR ?_
    | ((with_reducible refine WQ.blkX ?_ ?_); focus rfl)
    | ((with_reducible refine WQ.blkY ?_ ?_); focus rfl)
    | refine WC.condT rfl ?_
    | refine WC.condF rfl ?_
    | refine WC.condTh rfl gdQ ?_
    | refine WC.condFh rfl gdQ ?_
    | (refine WC.cond rfl (fun hc => ?_) (fun hc => ?_) <;> (try first | (with_reducible replace hc := of_decide_eq_true hc) | (with_reducible replace hc := of_decide_eq_false hc) | (with_reducible replace hc := eqT hc) | (with_reducible replace hc := eqF hc) | (with_reducible replace hc := neT hc) | (with_reducible replace hc := neF hc) | (with_reducible replace hc := noT hc) | (with_reducible replace hc := noF hc)) <;> (try (exfalso; omega))))
    refine WC.anyI [0] (by kernel_rfl) ?_
    refine WA.take (idx := [0]) 0 rfl (by kernel_rfl) (by kernel_rfl) (by kernel_rfl) rfl ⟨by decide, rfl⟩ (by first | exact Yld.load rfl rfl rfl rfl cellQ | exact Yld.loadAgg rfl rfl rfl rfl rfl aggQ) ?_
    refine WA.one 1 (by kernel_rfl) rfl rfl ?_
    refine StepTo.callN [] (us := [.agg #[.int .u32 cum2, .slice A2 ps2.length c2]]) rfl rfl rfl rfl rfl (by kernel_rfl) (fun w hw => as_w cum2 A2 ps2.length c2 ps2 w (hw.lst 1 Pc.cs_len (by omega) rfl) (by omega)) ?_
    rintro v N ⟨A7, c7, rfl, rfl⟩
    refine ⟨⟨[1], by decide, rfl⟩, ?_⟩
    refine WA.one 2 (by kernel_rfl) rfl rfl ?_
    refine StepTo.callV (v := .bool true) (us := [.agg #[.int .u32 cum2, .slice A7 ps2.length c7]]) rfl rfl rfl rfl rfl (by kernel_rfl) (fun w hw => right_yes (hw.lstRow 0 Pc.cs_len (by omega) rfl (by simp only [maxLen]; omega)) hP2.right) ⟨⟨[1], by decide, rfl⟩, ?_⟩
    refine WA.take (idx := [1]) 3 rfl (by kernel_rfl) (by kernel_rfl) (by kernel_rfl) rfl ⟨by decide, rfl⟩ (Yld.pure rfl nrmQ) ?_
    refine WA.take (idx := [1]) 4 rfl (by kernel_rfl) (by kernel_rfl) (by kernel_rfl) rfl ⟨by decide, rfl⟩ (Yld.pure rfl nrmQ) ?_
    first | refine WA.skip (idx := [1]) 5 rfl (by kernel_rfl) (by kernel_rfl) (by kernel_rfl) rfl ⟨by decide, rfl⟩ rfl rfl rfl gdQ ?_ | refine WA.takeG (idx := [1]) 5 rfl (by kernel_rfl) (by kernel_rfl) (by kernel_rfl) rfl ⟨by decide, rfl⟩ rfl rfl rfl gdQ (by first | exact Yld.load rfl rfl rfl rfl cellQ | exact Yld.loadAgg rfl rfl rfl rfl rfl aggQ) ?_
    first | refine WA.skip (idx := [1]) 7 rfl (by kernel_rfl) (by kernel_rfl) (by kernel_rfl) rfl ⟨by decide, rfl⟩ rfl rfl rfl gdQ ?_ | refine WA.takeG (idx := [1]) 7 rfl (by kernel_rfl) (by kernel_rfl) (by kernel_rfl) rfl ⟨by decide, rfl⟩ rfl rfl rfl gdQ (Yld.pure rfl nrmQ) ?_
    refine WA.oneW 6 (by kernel_rfl) rfl (.inr ⟨_, _, _, _, _, rfl, rfl, rfl, rfl, gdQ⟩) ?_
    refine StepTo.callV (v := .int .u32 ((cum2 + ps2.length + 1) % 4294967296)) (us := [.agg #[.int .u32 cum2, .slice A2 ps2.length c2]]) rfl rfl rfl rfl rfl (by kernel_rfl) (fun w _ => next_q cum2 A2 ps2.length c2 w (by omega)) ⟨⟨[1], by decide, rfl⟩, ?_⟩
    first | refine WA.skip (idx := [1]) 8 rfl (by kernel_rfl) (by kernel_rfl) (by kernel_rfl) rfl ⟨by decide, rfl⟩ rfl rfl rfl gdQ ?_ | refine WA.takeG (idx := [1]) 8 rfl (by kernel_rfl) (by kernel_rfl) (by kernel_rfl) rfl ⟨by decide, rfl⟩ rfl rfl rfl gdQ (by first | exact Yld.pure rfl nrmQ | exact Yld.rem rfl rfl rfl rfl (by omega) (by omega) | exact Yld.quo rfl rfl rfl rfl (by omega) (by omega) nrmQ | exact Yld.eqlB rfl rfl rfl rfl | exact Yld.neqB rfl rfl rfl rfl | exact Yld.eqlA 4 rfl rfl rfl (by kernel_rfl) (by kernel_rfl) rfl rfl | exact Yld.neqA 4 rfl rfl rfl (by kernel_rfl) (by kernel_rfl) rfl rfl | exact Yld.quoT rfl rfl rfl rfl (by omega) nrmQ) ?_
    refine WA.take (idx := [1]) 9 rfl (by kernel_rfl) (by kernel_rfl) (by kernel_rfl) rfl ⟨by decide, rfl⟩ (by first | exact Yld.pickT rfl rfl rfl | exact Yld.pickF rfl rfl rfl | exact Yld.pickTh rfl rfl gdQ rfl | exact Yld.pickFh rfl rfl gdQ rfl | exact Yld.pickB rfl rfl rfl rfl) ?_
    refine WA.take (idx := [1]) 10 rfl (by kernel_rfl) (by kernel_rfl) (by kernel_rfl) rfl ⟨by decide, rfl⟩ (Yld.pure rfl nrmQ) ?_
    first | refine WA.skip (idx := [1]) 11 rfl (by kernel_rfl) (by kernel_rfl) (by kernel_rfl) rfl ⟨by decide, rfl⟩ rfl rfl rfl gdQ ?_ | refine WA.takeG (idx := [1]) 11 rfl (by kernel_rfl) (by kernel_rfl) (by kernel_rfl) rfl ⟨by decide, rfl⟩ rfl rfl rfl gdQ (Yld.fieldAddr rfl rfl rfl rfl rfl rfl rfl) ?_
    first | refine WA.skip (idx := [1]) 12 rfl (by kernel_rfl) (by kernel_rfl) (by kernel_rfl) rfl ⟨by decide, rfl⟩ rfl rfl rfl gdQ ?_ | refine WA.takeG (idx := [1]) 12 rfl (by kernel_rfl) (by kernel_rfl) (by kernel_rfl) rfl ⟨by decide, rfl⟩ rfl rfl rfl gdQ (by first | exact Yld.load rfl rfl rfl rfl cellQ | exact Yld.loadAgg rfl rfl rfl rfl rfl aggQ) ?_
    first | refine WA.skip (idx := [1]) 13 rfl (by kernel_rfl) (by kernel_rfl) (by kernel_rfl) rfl ⟨by decide, rfl⟩ rfl rfl rfl gdQ ?_ | refine WA.takeG (idx := [1]) 13 rfl (by kernel_rfl) (by kernel_rfl) (by kernel_rfl) rfl ⟨by decide, rfl⟩ rfl rfl rfl gdQ (by first | exact Yld.pure rfl nrmQ | exact Yld.rem rfl rfl rfl rfl (by omega) (by omega) | exact Yld.quo rfl rfl rfl rfl (by omega) (by omega) nrmQ | exact Yld.eqlB rfl rfl rfl rfl | exact Yld.neqB rfl rfl rfl rfl | exact Yld.eqlA 4 rfl rfl rfl (by kernel_rfl) (by kernel_rfl) rfl rfl | exact Yld.neqA 4 rfl rfl rfl (by kernel_rfl) (by kernel_rfl) rfl rfl | exact Yld.quoT rfl rfl rfl rfl (by omega) nrmQ) ?_
    first | refine WA.skip (idx := [1]) 14 rfl (by kernel_rfl) (by kernel_rfl) (by kernel_rfl) rfl ⟨by decide, rfl⟩ rfl rfl rfl gdQ ?_ | refine WA.takeG (idx := [1]) 14 rfl (by kernel_rfl) (by kernel_rfl) (by kernel_rfl) rfl ⟨by decide, rfl⟩ rfl rfl rfl gdQ (Yld.pure rfl nrmQ) ?_
    first | refine WA.skip (idx := [1]) 15 rfl (by kernel_rfl) (by kernel_rfl) (by kernel_rfl) rfl ⟨by decide, rfl⟩ rfl rfl rfl gdQ ?_ | refine WA.takeG (idx := [1]) 15 rfl (by kernel_rfl) (by kernel_rfl) (by kernel_rfl) rfl ⟨by decide, rfl⟩ rfl rfl rfl gdQ (by first | exact Yld.pure rfl nrmQ | exact Yld.rem rfl rfl rfl rfl (by omega) (by omega) | exact Yld.quo rfl rfl rfl rfl (by omega) (by omega) nrmQ | exact Yld.eqlB rfl rfl rfl rfl | exact Yld.neqB rfl rfl rfl rfl | exact Yld.eqlA 4 rfl rfl rfl (by kernel_rfl) (by kernel_rfl) rfl rfl | exact Yld.neqA 4 rfl rfl rfl (by kernel_rfl) (by kernel_rfl) rfl rfl | exact Yld.quoT rfl rfl rfl rfl (by omega) nrmQ) ?_
    refine WA.take (idx := [1]) 16 rfl (by kernel_rfl) (by kernel_rfl) (by kernel_rfl) rfl ⟨by decide, rfl⟩ (by first | exact Yld.pickT rfl rfl rfl | exact Yld.pickF rfl rfl rfl | exact Yld.pickTh rfl rfl gdQ rfl | exact Yld.pickFh rfl rfl gdQ rfl | exact Yld.pickB rfl rfl rfl rfl) ?_
    refine WA.take (idx := [1]) 17 rfl (by kernel_rfl) (by kernel_rfl) (by kernel_rfl) rfl ⟨by decide, rfl⟩ (Yld.pure rfl nrmQ) ?_
    first | refine WA.skip (idx := [1]) 18 rfl (by kernel_rfl) (by kernel_rfl) (by kernel_rfl) rfl ⟨by decide, rfl⟩ rfl rfl rfl gdQ ?_ | refine WA.takeG (idx := [1]) 18 rfl (by kernel_rfl) (by kernel_rfl) (by kernel_rfl) rfl ⟨by decide, rfl⟩ rfl rfl rfl gdQ (by first | exact Yld.load rfl rfl rfl rfl cellQ | exact Yld.loadAgg rfl rfl rfl rfl rfl aggQ) ?_
    first | refine WA.skip (idx := [1]) 20 rfl (by kernel_rfl) (by kernel_rfl) (by kernel_rfl) rfl ⟨by decide, rfl⟩ rfl rfl rfl gdQ ?_ | refine WA.takeG (idx := [1]) 20 rfl (by kernel_rfl) (by kernel_rfl) (by kernel_rfl) rfl ⟨by decide, rfl⟩ rfl rfl rfl gdQ (Yld.pure rfl nrmQ) ?_
    refine WA.oneW 19 (by kernel_rfl) rfl (.inr ⟨_, _, _, _, _, rfl, rfl, rfl, rfl, gdQ⟩) ?_
    refine StepTo.callV (v := .int .i64 (underF (-1) ps2)) (us := [.agg #[.int .u32 cum2, .slice A2 ps2.length c2], .int .i64 (-1)]) rfl rfl rfl rfl rfl (by kernel_rfl) (fun w hw => under_q cum2 A2 ps2.length c2 ps2 (-1) w (hw.lst 2 Pc.cs_len (by omega) rfl) hsm2 (by omega)) ⟨⟨[1], by decide, rfl⟩, ?_⟩
    first | refine WA.skip (idx := [1]) 21 rfl (by kernel_rfl) (by kernel_rfl) (by kernel_rfl) rfl ⟨by decide, rfl⟩ rfl rfl rfl gdQ ?_ | refine WA.takeG (idx := [1]) 21 rfl (by kernel_rfl) (by kernel_rfl) (by kernel_rfl) rfl ⟨by decide, rfl⟩ rfl rfl rfl gdQ (by first | exact Yld.pure rfl nrmQ | exact Yld.rem rfl rfl rfl rfl (by omega) (by omega) | exact Yld.quo rfl rfl rfl rfl (by omega) (by omega) nrmQ | exact Yld.eqlB rfl rfl rfl rfl | exact Yld.neqB rfl rfl rfl rfl | exact Yld.eqlA 4 rfl rfl rfl (by kernel_rfl) (by kernel_rfl) rfl rfl | exact Yld.neqA 4 rfl rfl rfl (by kernel_rfl) (by kernel_rfl) rfl rfl | exact Yld.quoT rfl rfl rfl rfl (by omega) nrmQ) ?_
    refine WA.take (idx := [1]) 22 rfl (by kernel_rfl) (by kernel_rfl) (by kernel_rfl) rfl ⟨by decide, rfl⟩ (by first | exact Yld.pickT rfl rfl rfl | exact Yld.pickF rfl rfl rfl | exact Yld.pickTh rfl rfl gdQ rfl | exact Yld.pickFh rfl rfl gdQ rfl | exact Yld.pickB rfl rfl rfl rfl) ?_
    refine WA.take (idx := [1]) 23 rfl (by kernel_rfl) (by kernel_rfl) (by kernel_rfl) rfl ⟨by decide, rfl⟩ (Yld.pure rfl nrmQ) ?_
    first | refine WA.skip (idx := [1]) 24 rfl (by kernel_rfl) (by kernel_rfl) (by kernel_rfl) rfl ⟨by decide, rfl⟩ rfl rfl rfl gdQ ?_ | refine WA.takeG (idx := [1]) 24 rfl (by kernel_rfl) (by kernel_rfl) (by kernel_rfl) rfl ⟨by decide, rfl⟩ rfl rfl rfl gdQ (by first | exact Yld.load rfl rfl rfl rfl cellQ | exact Yld.loadAgg rfl rfl rfl rfl rfl aggQ) ?_
    first | refine WA.skip (idx := [1]) 26 rfl (by kernel_rfl) (by kernel_rfl) (by kernel_rfl) rfl ⟨by decide, rfl⟩ rfl rfl rfl gdQ ?_ | refine WA.takeG (idx := [1]) 26 rfl (by kernel_rfl) (by kernel_rfl) (by kernel_rfl) rfl ⟨by decide, rfl⟩ rfl rfl rfl gdQ (by first | exact Yld.load rfl rfl rfl rfl cellQ | exact Yld.loadAgg rfl rfl rfl rfl rfl aggQ) ?_
    first | refine WA.skip (idx := [1]) 28 rfl (by kernel_rfl) (by kernel_rfl) (by kernel_rfl) rfl ⟨by decide, rfl⟩ rfl rfl rfl gdQ ?_ | refine WA.takeG (idx := [1]) 28 rfl (by kernel_rfl) (by kernel_rfl) (by kernel_rfl) rfl ⟨by decide, rfl⟩ rfl rfl rfl gdQ (by first | exact Yld.load rfl rfl rfl rfl cellQ | exact Yld.loadAgg rfl rfl rfl rfl rfl aggQ) ?_
    refine WA.oneW 25 (by kernel_rfl) rfl (.inr ⟨_, _, _, _, _, rfl, rfl, rfl, rfl, gdQ⟩) ?_
    refine StepTo.callV (v := .int .i64 (underF (-1) ps2)) (us := [.agg #[.int .u32 cum2, .slice A2 ps2.length c2], .int .i64 (-1)]) rfl rfl rfl rfl rfl (by kernel_rfl) (fun w hw => under_q cum2 A2 ps2.length c2 ps2 (-1) w (hw.lst 2 Pc.cs_len (by omega) rfl) hsm2 (by omega)) ⟨⟨[1], by decide, rfl⟩, ?_⟩
    refine WA.oneW 27 (by kernel_rfl) rfl (.inr ⟨_, _, _, _, _, rfl, rfl, rfl, rfl, gdQ⟩) ?_
    refine StepTo.callV (v := .int .i64 (underF 0 ps2)) (us := [.agg #[.int .u32 cum2, .slice A2 ps2.length c2], .int .i64 0]) rfl rfl rfl rfl rfl (by kernel_rfl) (fun w hw => under_q cum2 A2 ps2.length c2 ps2 0 w (hw.lst 2 Pc.cs_len (by omega) rfl) hsm2 (by omega)) ⟨⟨[1], by decide, rfl⟩, ?_⟩
    refine WA.oneW 29 (by kernel_rfl) rfl (.inr ⟨_, _, _, _, _, rfl, rfl, rfl, rfl, gdQ⟩) ?_
    refine StepTo.callV (v := .int .i64 (underF 1 ps2)) (us := [.agg #[.int .u32 cum2, .slice A2 ps2.length c2], .int .i64 1]) rfl rfl rfl rfl rfl (by kernel_rfl) (fun w hw => under_q cum2 A2 ps2.length c2 ps2 1 w (hw.lst 2 Pc.cs_len (by omega) rfl) hsm2 (by omega)) ⟨⟨[1], by decide, rfl⟩, ?_⟩
    first | refine WA.skip (idx := [1]) 30 rfl (by kernel_rfl) (by kernel_rfl) (by kernel_rfl) rfl ⟨by decide, rfl⟩ rfl rfl rfl gdQ ?_ | refine WA.takeG (idx := [1]) 30 rfl (by kernel_rfl) (by kernel_rfl) (by kernel_rfl) rfl ⟨by decide, rfl⟩ rfl rfl rfl gdQ (by first | exact Yld.pure rfl nrmQ | exact Yld.rem rfl rfl rfl rfl (by omega) (by omega) | exact Yld.quo rfl rfl rfl rfl (by omega) (by omega) nrmQ | exact Yld.eqlB rfl rfl rfl rfl | exact Yld.neqB rfl rfl rfl rfl | exact Yld.eqlA 4 rfl rfl rfl (by kernel_rfl) (by kernel_rfl) rfl rfl | exact Yld.neqA 4 rfl rfl rfl (by kernel_rfl) (by kernel_rfl) rfl rfl | exact Yld.quoT rfl rfl rfl rfl (by omega) nrmQ) ?_
    first | refine WA.skip (idx := [1]) 31 rfl (by kernel_rfl) (by kernel_rfl) (by kernel_rfl) rfl ⟨by decide, rfl⟩ rfl rfl rfl gdQ ?_ | refine WA.takeG (idx := [1]) 31 rfl (by kernel_rfl) (by kernel_rfl) (by kernel_rfl) rfl ⟨by decide, rfl⟩ rfl rfl rfl gdQ (by first | exact Yld.pure rfl nrmQ | exact Yld.rem rfl rfl rfl rfl (by omega) (by omega) | exact Yld.quo rfl rfl rfl rfl (by omega) (by omega) nrmQ | exact Yld.eqlB rfl rfl rfl rfl | exact Yld.neqB rfl rfl rfl rfl | exact Yld.eqlA 4 rfl rfl rfl (by kernel_rfl) (by kernel_rfl) rfl rfl | exact Yld.neqA 4 rfl rfl rfl (by kernel_rfl) (by kernel_rfl) rfl rfl | exact Yld.quoT rfl rfl rfl rfl (by omega) nrmQ) ?_
    refine WA.take (idx := [1]) 32 rfl (by kernel_rfl) (by kernel_rfl) (by kernel_rfl) rfl ⟨by decide, rfl⟩ (by first | exact Yld.pickT rfl rfl rfl | exact Yld.pickF rfl rfl rfl | exact Yld.pickTh rfl rfl gdQ rfl | exact Yld.pickFh rfl rfl gdQ rfl | exact Yld.pickB rfl rfl rfl rfl) ?_
    refine WA.done (by kernel_rfl) ?_
    repeat' (first
    | with_reducible refine WL.nil ?_
    | with_reducible refine WQ.thenN ?_
    | with_reducible refine WQ.code ?_
    | with_reducible refine WC.seq ?_
    | with_reducible refine WC.region ?_
    | ((with_reducible refine WL.isN_move ?_); first | refine WL.yld rfl (Yld.pure rfl nrmQ) ?_)
    | ((with_reducible refine WL.isN_assign ?_); first | refine WL.yld rfl (Yld.pure rfl nrmQ) ?_)
    | ((with_reducible refine WL.isN_bin ?_); first | refine WL.yld rfl (Yld.pure rfl nrmQ) ?_ | refine WL.yld rfl (Yld.rem rfl rfl rfl rfl (by omega) (by omega)) ?_ | refine WL.yld rfl (Yld.quo rfl rfl rfl rfl (by omega) (by omega) nrmQ) ?_ | refine WL.yld rfl (Yld.eqlB rfl rfl rfl rfl) ?_ | refine WL.yld rfl (Yld.neqB rfl rfl rfl rfl) ?_ | refine WL.yld rfl (Yld.eqlA 4 rfl rfl rfl (by kernel_rfl) (by kernel_rfl) rfl rfl) ?_ | refine WL.yld rfl (Yld.neqA 4 rfl rfl rfl (by kernel_rfl) (by kernel_rfl) rfl rfl) ?_ | refine WL.yld rfl (Yld.quoT rfl rfl rfl rfl (by omega) nrmQ) ?_)
    | ((with_reducible refine WL.isN_un ?_); first | refine WL.yld rfl (Yld.pure rfl nrmQ) ?_)
    | ((with_reducible refine WL.isN_extract ?_); first | refine WL.yld rfl (Yld.pure rfl nrmQ) ?_)
    | ((with_reducible refine WL.isN_load ?_); first | refine WL.yld rfl (Yld.load rfl rfl rfl rfl cellQ) ?_ | refine WL.yld rfl (Yld.loadAgg rfl rfl rfl rfl rfl aggQ) ?_)
    | ((with_reducible refine WL.isN_faddr ?_); first | refine WL.yld rfl (Yld.fieldAddr rfl rfl rfl rfl rfl rfl rfl) ?_)
    | ((with_reducible refine WL.isN_iaddr ?_); first | refine WL.yld rfl (Yld.indexS 0 rfl rfl rfl rfl rfl rfl (by omega)) ?_ | refine WL.yld rfl (Yld.indexS 1 rfl rfl rfl rfl rfl rfl (by omega)) ?_ | refine WL.yld rfl (Yld.indexS 2 rfl rfl rfl rfl rfl rfl (by omega)) ?_ | refine WL.yld rfl (Yld.indexS _ rfl rfl rfl rfl rfl rfl (by omega)) ?_ | refine WL.yld rfl (Yld.indexA 0 rfl rfl rfl rfl rfl rfl (by omega)) ?_ | refine WL.yld rfl (Yld.indexA 1 rfl rfl rfl rfl rfl rfl (by omega)) ?_ | refine WL.yld rfl (Yld.indexA _ rfl rfl rfl rfl rfl rfl (by omega)) ?_)
    | ((with_reducible refine WL.isN_conv ?_); first | refine WL.yld rfl (Yld.convInt rfl rfl rfl rfl nrmQ) ?_)
    | ((with_reducible refine WL.isN_build ?_); first | refine WL.yld rfl (Yld.build rfl rfl rfl) ?_)
    | ((with_reducible refine WL.isN_pick ?_); first | refine WL.yld rfl (Yld.pickT rfl rfl rfl) ?_ | refine WL.yld rfl (Yld.pickF rfl rfl rfl) ?_ | refine WL.yld rfl (Yld.pickTh rfl rfl gdQ rfl) ?_ | refine WL.yld rfl (Yld.pickFh rfl rfl gdQ rfl) ?_ | refine WL.yld rfl (Yld.pickB rfl rfl rfl rfl) ?_)
    | ((with_reducible refine WL.isN_call ?_); first | refine WL.yld rfl (Yld.lenSlice rfl rfl rfl) ?_ | refine WL.yld rfl (Yld.lenStr rfl rfl rfl) ?_)
    | ((with_reducible refine WL.isT ?_); first | refine WL.skipT rfl rfl rfl rfl gdQ ?_ | refine WL.skipU rfl rfl rfl rfl ?_ | refine WL.runT rfl rfl rfl gdQ ?_)
    | ((with_reducible refine WL.isF ?_); first | refine WL.skipF rfl rfl rfl rfl gdQ ?_ | refine WL.skipU rfl rfl rfl rfl ?_ | refine WL.runF rfl rfl rfl gdQ ?_)
    | ((with_reducible refine WL.isN_alloc ?_); first | refine WL.step rfl (StepTo.allocA rfl rfl rfl rfl (fun _ => ?_)) | refine WL.step rfl (StepTo.alloc1 rfl rfl rfl rfl rfl (fun _ => ?_)))
    | ((with_reducible refine WL.isN_store ?_); first | refine WL.step rfl (StepTo.st1 rfl rfl rfl rfl rfl rfl ?_) | refine WL.step rfl (StepTo.stA rfl rfl rfl rfl rfl rfl rfl ?_) | refine WL.step rfl (StepTo.stR rfl rfl rfl rfl rfl rfl rfl ?_))
    | ((with_reducible refine WL.isN_bslice ?_); first | refine WL.step rfl (StepTo.buildSlice rfl rfl rfl rfl rfl rfl rfl rfl rfl rfl cellsOfQ (fun _ => ?_)))
    | with_reducible refine WC.block ?_
    | with_reducible refine WC.scope ?_
    | with_reducible refine WC.label ?_
    | with_reducible refine WQ.ngN ?_
    | with_reducible refine WQ.ngR ?_
    | with_reducible refine WQ.ngX ?_
    | with_reducible refine WC.skip ?_
    | with_reducible refine WC.ret ?_
    | with_reducible refine WC.exit ?_
    | with_reducible refine WQ.thenR ?_
    | with_reducible refine WQ.thenX ?_
    | with_reducible refine WQ.blkN ?_
    | with_reducible refine WQ.blkR ?_
    | ((with_reducible refine WQ.blkX ?_ ?_); focus rfl)
    | ((with_reducible refine WQ.blkY ?_ ?_); focus rfl)
    | refine WC.condT rfl ?_
    | refine WC.condF rfl ?_
    | refine WC.condTh rfl gdQ ?_
    | refine WC.condFh rfl gdQ ?_
    | (refine WC.cond rfl (fun hc => ?_) (fun hc => ?_) <;> (try first | (with_reducible replace hc := of_decide_eq_true hc) | (with_reducible replace hc := of_decide_eq_false hc) | (with_reducible replace hc := eqT hc) | (with_reducible replace hc := eqF hc) | (with_reducible replace hc := neT hc) | (with_reducible replace hc := neF hc) | (with_reducible replace hc := noT hc) | (with_reducible replace hc := noF hc)) <;> (try (exfalso; omega))))
    exact WQ.rnd (n - (i + 1)) _ _ [1, 2, 3] (by repeat (first | exact Sub.nil | refine Sub.cons rfl ?_ | refine Sub.consE rfl (int_eq (by omega)) ?_)) ⟨by decide, rfl⟩ (by omega) ⟨i + 1, A2, c2, cum2, next2, dn2, all2, ps2, by omega, rfl, hP2, hnb2, hdb2, hok2, hcap2, rfl, rfl⟩
  repeat' (first
    | with_reducible refine WL.nil ?_
    | with_reducible refine WQ.thenN ?_
    | with_reducible refine WQ.code ?_
    | with_reducible refine WC.seq ?_
    | with_reducible refine WC.region ?_
    | ((with_reducible refine WL.isN_move ?_); first | refine WL.yld rfl (Yld.pure rfl nrmQ) ?_)
    | ((with_reducible refine WL.isN_assign ?_); first | refine WL.yld rfl (Yld.pure rfl nrmQ) ?_)
    | ((with_reducible refine WL.isN_bin ?_); first | refine WL.yld rfl (Yld.pure rfl nrmQ) ?_ | refine WL.yld rfl (Yld.rem rfl rfl rfl rfl (by omega) (by omega)) ?_ | refine WL.yld rfl (Yld.quo rfl rfl rfl rfl (by omega) (by omega) nrmQ) ?_ | refine WL.yld rfl (Yld.eqlB rfl rfl rfl rfl) ?_ | refine WL.yld rfl (Yld.neqB rfl rfl rfl rfl) ?_ | refine WL.yld rfl (Yld.eqlA 4 rfl rfl rfl (by kernel_rfl) (by kernel_rfl) rfl rfl) ?_ | refine WL.yld rfl (Yld.neqA 4 rfl rfl rfl (by kernel_rfl) (by kernel_rfl) rfl rfl) ?_ | refine WL.yld rfl (Yld.quoT rfl rfl rfl rfl (by omega) nrmQ) ?_)
    | ((with_reducible refine WL.isN_un ?_); first | refine WL.yld rfl (Yld.pure rfl nrmQ) ?_)
    | ((with_reducible refine WL.isN_extract ?_); first | refine WL.yld rfl (Yld.pure rfl nrmQ) ?_)
    | ((with_reducible refine WL.isN_load ?_); first | refine WL.yld rfl (Yld.load rfl rfl rfl rfl cellQ) ?_ | refine WL.yld rfl (Yld.loadAgg rfl rfl rfl rfl rfl aggQ) ?_)
    | ((with_reducible refine WL.isN_faddr ?_); first | refine WL.yld rfl (Yld.fieldAddr rfl rfl rfl rfl rfl rfl rfl) ?_)
    | ((with_reducible refine WL.isN_iaddr ?_); first | refine WL.yld rfl (Yld.indexS 0 rfl rfl rfl rfl rfl rfl (by omega)) ?_ | refine WL.yld rfl (Yld.indexS 1 rfl rfl rfl rfl rfl rfl (by omega)) ?_ | refine WL.yld rfl (Yld.indexS 2 rfl rfl rfl rfl rfl rfl (by omega)) ?_ | refine WL.yld rfl (Yld.indexS _ rfl rfl rfl rfl rfl rfl (by omega)) ?_ | refine WL.yld rfl (Yld.indexA 0 rfl rfl rfl rfl rfl rfl (by omega)) ?_ | refine WL.yld rfl (Yld.indexA 1 rfl rfl rfl rfl rfl rfl (by omega)) ?_ | refine WL.yld rfl (Yld.indexA _ rfl rfl rfl rfl rfl rfl (by omega)) ?_)
    | ((with_reducible refine WL.isN_conv ?_); first | refine WL.yld rfl (Yld.convInt rfl rfl rfl rfl nrmQ) ?_)
    | ((with_reducible refine WL.isN_build ?_); first | refine WL.yld rfl (Yld.build rfl rfl rfl) ?_)
    | ((with_reducible refine WL.isN_pick ?_); first | refine WL.yld rfl (Yld.pickT rfl rfl rfl) ?_ | refine WL.yld rfl (Yld.pickF rfl rfl rfl) ?_ | refine WL.yld rfl (Yld.pickTh rfl rfl gdQ rfl) ?_ | refine WL.yld rfl (Yld.pickFh rfl rfl gdQ rfl) ?_ | refine WL.yld rfl (Yld.pickB rfl rfl rfl rfl) ?_)
    | ((with_reducible refine WL.isN_call ?_); first | refine WL.yld rfl (Yld.lenSlice rfl rfl rfl) ?_ | refine WL.yld rfl (Yld.lenStr rfl rfl rfl) ?_)
    | ((with_reducible refine WL.isT ?_); first | refine WL.skipT rfl rfl rfl rfl gdQ ?_ | refine WL.skipU rfl rfl rfl rfl ?_ | refine WL.runT rfl rfl rfl gdQ ?_)
    | ((with_reducible refine WL.isF ?_); first | refine WL.skipF rfl rfl rfl rfl gdQ ?_ | refine WL.skipU rfl rfl rfl rfl ?_ | refine WL.runF rfl rfl rfl gdQ ?_)
    | ((with_reducible refine WL.isN_alloc ?_); first | refine WL.step rfl (StepTo.allocA rfl rfl rfl rfl (fun _ => ?_)) | refine WL.step rfl (StepTo.alloc1 rfl rfl rfl rfl rfl (fun _ => ?_)))
    | ((with_reducible refine WL.isN_store ?_); first | refine WL.step rfl (StepTo.st1 rfl rfl rfl rfl rfl rfl ?_) | refine WL.step rfl (StepTo.stA rfl rfl rfl rfl rfl rfl rfl ?_) | refine WL.step rfl (StepTo.stR rfl rfl rfl rfl rfl rfl rfl ?_))
    | ((with_reducible refine WL.isN_bslice ?_); first | refine WL.step rfl (StepTo.buildSlice rfl rfl rfl rfl rfl rfl rfl rfl rfl rfl cellsOfQ (fun _ => ?_)))
    | with_reducible refine WC.block ?_
    | with_reducible refine WC.scope ?_
    | with_reducible refine WC.label ?_
    | with_reducible refine WQ.ngN ?_
    | with_reducible refine WQ.ngR ?_
    | with_reducible refine WQ.ngX ?_
    | with_reducible refine WC.skip ?_
    | with_reducible refine WC.ret ?_
    | with_reducible refine WC.exit ?_
    | with_reducible refine WQ.thenR ?_
    | with_reducible refine WQ.thenX ?_
    | with_reducible refine WQ.blkN ?_
    | with_reducible refine WQ.blkR ?_
    | ((with_reducible refine WQ.blkX ?_ ?_); focus rfl)
    | ((with_reducible refine WQ.blkY ?_ ?_); focus rfl)
    | refine WC.condT rfl ?_
    | refine WC.condF rfl ?_
    | refine WC.condTh rfl gdQ ?_
    | refine WC.condFh rfl gdQ ?_
    | (refine WC.cond rfl (fun hc => ?_) (fun hc => ?_) <;> (try first | (with_reducible replace hc := of_decide_eq_true hc) | (with_reducible replace hc := of_decide_eq_false hc) | (with_reducible replace hc := eqT hc) | (with_reducible replace hc := eqF hc) | (with_reducible replace hc := neT hc) | (with_reducible replace hc := neF hc) | (with_reducible replace hc := noT hc) | (with_reducible replace hc := noF hc)) <;> (try (exfalso; omega)))
    | exact WQ.body (Reads.tmp rfl rfl) (fun _ hw' => ⟨ret_bool gdQ, hw'.ext.below⟩))
theorem sentPlays_walk (first : Int) (A : Option Addr) (n c : Nat) (xs : List Act6) (w : World) (w0 : (Lit.int .u32 first).wf = true) (hL : Lst Act6.cs 6 w w.heap.size A n xs) (hx : ∀ a ∈ xs, a.Ok) :
    Calls Try.prog 5 #[.int .u32 first, .slice A n c] w
      fun e w' => e = .returned (.bool true) ∧ Below w.heap.size w w' :=
  sentPlays_any first A n c xs w (bounds_u32 w0).1 (bounds_u32 w0).2 hL hx
end Go.Proofs.Ythpllkegmjcfaaa
