/- Steps of a walk that show themselves. Of whatever program. -/
import Derived.Test.YthbhjnmkbmmcnaaHg
import Derived.Test.YthbhjnmkbmmcnaaCut
namespace Go.Proofs.Ythbhjnmkbmmcnaa
open Go.RowKit Go.IntWalk
set_option linter.unusedVariables false
set_option linter.unusedSectionVars false

/-- What is to be shown next, kept apart from the hypotheses. -/
structure Kept (G : Prop) : Prop where
  go : G
/-- As many steps as there are that read no type's own law, and part no way. -/
theorem goS {G G' : Prop} (k : G') (h : Kept G' → G := by
    intro k
    repeat1' (first
      | with_reducible refine WL.nil ?_
      | with_reducible refine WQ.thenN ?_
      | with_reducible refine WQ.code ?_
      | with_reducible refine WC.seq ?_
      | with_reducible refine WC.region ?_
      | ((with_reducible refine WL.isN_move ?_); first | refine WL.yld rfl (Yld.pure rfl nrmQ) ?_)
      | ((with_reducible refine WK.isN_move ?_); first | refine WK.yld rfl (Yld.pure rfl nrmQ) ?_)
      | ((with_reducible refine WL.isN_assign ?_); first | refine WL.yld rfl (Yld.pure rfl nrmQ) ?_)
      | ((with_reducible refine WK.isN_assign ?_); first | refine WK.yld rfl (Yld.pure rfl nrmQ) ?_)
      | ((with_reducible refine WL.isN_un ?_); first | refine WL.yld rfl (Yld.pure rfl nrmQ) ?_)
      | ((with_reducible refine WK.isN_un ?_); first | refine WK.yld rfl (Yld.pure rfl nrmQ) ?_)
      | ((with_reducible refine WL.isN_extract ?_); first | refine WL.yld rfl (Yld.pure rfl nrmQ) ?_)
      | ((with_reducible refine WK.isN_extract ?_); first | refine WK.yld rfl (Yld.pure rfl nrmQ) ?_)
      | ((with_reducible refine WL.isN_nil ?_); first | refine WL.yld rfl (Yld.pure rfl nrmQ) ?_)
      | ((with_reducible refine WK.isN_nil ?_); first | refine WK.yld rfl (Yld.pure rfl nrmQ) ?_)
      | ((with_reducible refine WL.isN_faddr ?_); first | refine WL.yld rfl (Yld.fieldAddr rfl rfl rfl rfl rfl rfl rfl) ?_)
      | ((with_reducible refine WK.isN_faddr ?_); first | refine WK.yld rfl (Yld.fieldAddr rfl rfl rfl rfl rfl rfl rfl) ?_)
      | ((with_reducible refine WL.isN_func ?_); first | refine WL.yld rfl (Yld.func rfl rfl rfl) ?_)
      | ((with_reducible refine WK.isN_func ?_); first | refine WK.yld rfl (Yld.func rfl rfl rfl) ?_)
      | ((with_reducible refine WL.isN_pick ?_); first | refine WL.yld rfl (Yld.pickT rfl rfl rfl) ?_ | refine WL.yld rfl (Yld.pickF rfl rfl rfl) ?_ | refine WL.yld rfl (Yld.pickTh rfl rfl gdQ rfl) ?_ | refine WL.yld rfl (Yld.pickFh rfl rfl gdQ rfl) ?_ | refine WL.yld rfl (Yld.pickB rfl rfl rfl rfl) ?_)
      | ((with_reducible refine WK.isN_pick ?_); first | refine WK.yld rfl (Yld.pickT rfl rfl rfl) ?_ | refine WK.yld rfl (Yld.pickF rfl rfl rfl) ?_ | refine WK.yld rfl (Yld.pickTh rfl rfl gdQ rfl) ?_ | refine WK.yld rfl (Yld.pickFh rfl rfl gdQ rfl) ?_ | refine WK.yld rfl (Yld.pickB rfl rfl rfl rfl) ?_)
      | ((with_reducible refine WL.isN_field ?_); first | refine WL.yld rfl (Yld.field1 rfl rfl rfl rfl rfl rfl rfl) ?_ | refine WL.yld rfl (Yld.fieldA rfl rfl rfl rfl rfl rfl rfl rfl) ?_)
      | ((with_reducible refine WK.isN_field ?_); first | refine WK.yld rfl (Yld.field1 rfl rfl rfl rfl rfl rfl rfl) ?_ | refine WK.yld rfl (Yld.fieldA rfl rfl rfl rfl rfl rfl rfl rfl) ?_)
      | ((with_reducible refine WL.isT ?_); first | refine WL.skipT rfl rfl rfl rfl gdQ ?_ | refine WL.skipU rfl rfl rfl rfl ?_ | refine WL.runT rfl rfl rfl gdQ ?_)
      | ((with_reducible refine WK.isT ?_); first | refine WK.skipT rfl rfl rfl rfl gdQ ?_ | refine WK.skipU rfl rfl rfl rfl ?_ | refine WK.runT rfl rfl rfl gdQ ?_)
      | ((with_reducible refine WL.isF ?_); first | refine WL.skipF rfl rfl rfl rfl gdQ ?_ | refine WL.skipU rfl rfl rfl rfl ?_ | refine WL.runF rfl rfl rfl gdQ ?_)
      | ((with_reducible refine WK.isF ?_); first | refine WK.skipF rfl rfl rfl rfl gdQ ?_ | refine WK.skipU rfl rfl rfl rfl ?_ | refine WK.runF rfl rfl rfl gdQ ?_)
      | with_reducible refine WC.scope ?_
      | with_reducible refine WC.label ?_
      | with_reducible refine WQ.ngN ?_
      | with_reducible refine WQ.ngR ?_
      | with_reducible refine WQ.ngX ?_
      | with_reducible refine WC.skip ?_
      | with_reducible refine WC.ret ?_
      | with_reducible refine WC.exit ?_
      | with_reducible refine WQ.thenR ?_
      | with_reducible refine WQ.thenX ?_
      | with_reducible refine WQ.blkN ?_
      | with_reducible refine WQ.blkR ?_
      | ((with_reducible refine WQ.blkX ?_ ?_); focus rfl)
      | ((with_reducible refine WQ.blkY ?_ ?_); focus rfl)
      | with_reducible refine WK.nil ?_
      | refine WC.condT rfl ?_
      | refine WC.condF rfl ?_
      | refine WC.condTh rfl gdQ ?_
      | refine WC.condFh rfl gdQ ?_)
    exact k.go) : G := h ⟨k⟩
/-- The same, no test decided. -/
theorem goT {G G' : Prop} (k : G') (h : Kept G' → G := by
    intro k
    repeat1' (first
      | with_reducible refine WL.nil ?_
      | with_reducible refine WQ.thenN ?_
      | with_reducible refine WQ.code ?_
      | with_reducible refine WC.seq ?_
      | with_reducible refine WC.region ?_
      | ((with_reducible refine WL.isN_move ?_); first | refine WL.yld rfl (Yld.pure rfl nrmQ) ?_)
      | ((with_reducible refine WK.isN_move ?_); first | refine WK.yld rfl (Yld.pure rfl nrmQ) ?_)
      | ((with_reducible refine WL.isN_assign ?_); first | refine WL.yld rfl (Yld.pure rfl nrmQ) ?_)
      | ((with_reducible refine WK.isN_assign ?_); first | refine WK.yld rfl (Yld.pure rfl nrmQ) ?_)
      | ((with_reducible refine WL.isN_un ?_); first | refine WL.yld rfl (Yld.pure rfl nrmQ) ?_)
      | ((with_reducible refine WK.isN_un ?_); first | refine WK.yld rfl (Yld.pure rfl nrmQ) ?_)
      | ((with_reducible refine WL.isN_extract ?_); first | refine WL.yld rfl (Yld.pure rfl nrmQ) ?_)
      | ((with_reducible refine WK.isN_extract ?_); first | refine WK.yld rfl (Yld.pure rfl nrmQ) ?_)
      | ((with_reducible refine WL.isN_nil ?_); first | refine WL.yld rfl (Yld.pure rfl nrmQ) ?_)
      | ((with_reducible refine WK.isN_nil ?_); first | refine WK.yld rfl (Yld.pure rfl nrmQ) ?_)
      | ((with_reducible refine WL.isN_faddr ?_); first | refine WL.yld rfl (Yld.fieldAddr rfl rfl rfl rfl rfl rfl rfl) ?_)
      | ((with_reducible refine WK.isN_faddr ?_); first | refine WK.yld rfl (Yld.fieldAddr rfl rfl rfl rfl rfl rfl rfl) ?_)
      | ((with_reducible refine WL.isN_func ?_); first | refine WL.yld rfl (Yld.func rfl rfl rfl) ?_)
      | ((with_reducible refine WK.isN_func ?_); first | refine WK.yld rfl (Yld.func rfl rfl rfl) ?_)
      | ((with_reducible refine WL.isN_pick ?_); first | refine WL.yld rfl (Yld.pickT rfl rfl rfl) ?_ | refine WL.yld rfl (Yld.pickF rfl rfl rfl) ?_ | refine WL.yld rfl (Yld.pickTh rfl rfl gdQ rfl) ?_ | refine WL.yld rfl (Yld.pickFh rfl rfl gdQ rfl) ?_ | refine WL.yld rfl (Yld.pickB rfl rfl rfl rfl) ?_)
      | ((with_reducible refine WK.isN_pick ?_); first | refine WK.yld rfl (Yld.pickT rfl rfl rfl) ?_ | refine WK.yld rfl (Yld.pickF rfl rfl rfl) ?_ | refine WK.yld rfl (Yld.pickTh rfl rfl gdQ rfl) ?_ | refine WK.yld rfl (Yld.pickFh rfl rfl gdQ rfl) ?_ | refine WK.yld rfl (Yld.pickB rfl rfl rfl rfl) ?_)
      | ((with_reducible refine WL.isN_field ?_); first | refine WL.yld rfl (Yld.field1 rfl rfl rfl rfl rfl rfl rfl) ?_ | refine WL.yld rfl (Yld.fieldA rfl rfl rfl rfl rfl rfl rfl rfl) ?_)
      | ((with_reducible refine WK.isN_field ?_); first | refine WK.yld rfl (Yld.field1 rfl rfl rfl rfl rfl rfl rfl) ?_ | refine WK.yld rfl (Yld.fieldA rfl rfl rfl rfl rfl rfl rfl rfl) ?_)
      | ((with_reducible refine WL.isT ?_); first | refine WL.skipT rfl rfl rfl rfl gdQ ?_ | refine WL.skipU rfl rfl rfl rfl ?_ | refine WL.runT rfl rfl rfl gdQ ?_)
      | ((with_reducible refine WK.isT ?_); first | refine WK.skipT rfl rfl rfl rfl gdQ ?_ | refine WK.skipU rfl rfl rfl rfl ?_ | refine WK.runT rfl rfl rfl gdQ ?_)
      | ((with_reducible refine WL.isF ?_); first | refine WL.skipF rfl rfl rfl rfl gdQ ?_ | refine WL.skipU rfl rfl rfl rfl ?_ | refine WL.runF rfl rfl rfl gdQ ?_)
      | ((with_reducible refine WK.isF ?_); first | refine WK.skipF rfl rfl rfl rfl gdQ ?_ | refine WK.skipU rfl rfl rfl rfl ?_ | refine WK.runF rfl rfl rfl gdQ ?_)
      | with_reducible refine WC.scope ?_
      | with_reducible refine WC.label ?_
      | with_reducible refine WQ.ngN ?_
      | with_reducible refine WQ.ngR ?_
      | with_reducible refine WQ.ngX ?_
      | with_reducible refine WC.skip ?_
      | with_reducible refine WC.ret ?_
      | with_reducible refine WC.exit ?_
      | with_reducible refine WQ.thenR ?_
      | with_reducible refine WQ.thenX ?_
      | with_reducible refine WQ.blkN ?_
      | with_reducible refine WQ.blkR ?_
      | ((with_reducible refine WQ.blkX ?_ ?_); focus rfl)
      | ((with_reducible refine WQ.blkY ?_ ?_); focus rfl)
      | with_reducible refine WK.nil ?_)
    exact k.go) : G := h ⟨k⟩
section
variable {P : Program} {w0 : World} {D : Nat → Prop} {n : Nat} [Dfr] {τ : Tm} {H : List Item} {o : Oper} {v : Value} {K : Tm → List Item → Prop}
theorem binQ (h : Yld P w0 D n o τ H v := by first | exact Yld.pure rfl nrmQ | exact Yld.rem rfl rfl rfl rfl (by omega) (by omega) | exact Yld.quo rfl rfl rfl rfl (by omega) (by omega) nrmQ | exact Yld.eqlB rfl rfl rfl rfl | exact Yld.neqB rfl rfl rfl rfl | exact Yld.eqlA 4 rfl rfl rfl (by kernel_rfl) (by kernel_rfl) rfl rfl | exact Yld.neqA 4 rfl rfl rfl (by kernel_rfl) (by kernel_rfl) rfl rfl | exact Yld.quoT rfl rfl rfl rfl (by omega) nrmQ) : Yld P w0 D n o τ H v := h
theorem loadQ (h : Yld P w0 D n o τ H v := by first | exact Yld.load rfl rfl rfl rfl cellQ | exact Yld.loadAgg rfl rfl rfl rfl rfl aggQ) : Yld P w0 D n o τ H v := h
theorem iaddrQ (h : Yld P w0 D n o τ H v := by first | exact Yld.indexS 0 rfl rfl rfl rfl rfl rfl (by omega) | exact Yld.indexS 1 rfl rfl rfl rfl rfl rfl (by omega) | exact Yld.indexS 2 rfl rfl rfl rfl rfl rfl (by omega) | exact Yld.indexS _ rfl rfl rfl rfl rfl rfl (by omega) | exact Yld.indexA 0 rfl rfl rfl rfl rfl rfl (by omega) | exact Yld.indexA 1 rfl rfl rfl rfl rfl rfl (by omega) | exact Yld.indexA _ rfl rfl rfl rfl rfl rfl (by omega)) : Yld P w0 D n o τ H v := h
theorem convQ (h : Yld P w0 D n o τ H v := by first | exact Yld.convInt rfl rfl rfl rfl nrmQ) : Yld P w0 D n o τ H v := h
theorem buildQ (h : Yld P w0 D n o τ H v := by first | exact Yld.build rfl rfl rfl) : Yld P w0 D n o τ H v := h
theorem lenQ (h : Yld P w0 D n o τ H v := by first | exact Yld.lenSlice rfl rfl rfl | exact Yld.lenStr rfl rfl rfl) : Yld P w0 D n o τ H v := h
end
end Go.Proofs.Ythbhjnmkbmmcnaa
