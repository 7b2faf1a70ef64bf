/-
  No cell of these rows narrows 'for every input' (looked for: loops, veiled, ifaces, maps, wideKeys, modest, calm, conditions, laid).
  DERIVED. THE GIVEN ROWS OF THIS SEAT. 8 by the template 'for every input the law returns true; each argument reads behind the call as it read before'; 0 by the template 'total and deterministic' (their statements: YtecgfhkdpphhcaaTotals.lean).
  GIVEN WITH THE SEED: the statements are not yours to turn. If you find one false, say at which input.
  Laid BY PROGRAM, IN A SANDBOX (cutbox-rows.mjs): the forced cells as the released guide's own fill.sh prints them over the translation abac79dcda1c4bd1… (all of the seat's roots in one cut). By AI agents, Wed Nov 11 2026. No macro, syntax, notation, axiom, sorry.
-/
import Derived.Test.YtecgfhkdpphhcaaChecked
import GoSem.Claim
import GoSem.ClaimJoined
import GoSem.ClaimMapViews
import Derived.JoinedTies
import Derived.KernelRfl
namespace Go.Proofs.Ytecgfhkdpphhcaa
/- THE CELL 'sum', in the pinned program and in every row, IS THE sha256 OF THE DUMP (.gsa) THAT YtecgfhkdpphhcaaProg.lean LOADS. Nothing in Lean hashes anything: it is a label: what it is worth is what the hold of that sum in a sandbox is worth. -/
noncomputable def Try.pinned : Pinned := { name := "ytecgfhkdpphhcaa", sum := "abac79dcda1c4bd1fa03e6da251331248fceb30c603f8d83e0dcbdc17f812b3f", checked := Try.checked }
namespace Rows
def none {H : Type} : Left H := { results := [], args := [] }

/-- 'towlinelaw10.RtoNears': WHATEVER THE INPUT: true; the input reads as it did. -/
def rtoNearsSpec : ChangeSpec := { name := "rtoNears", fn := fun _ => fun
  | [d1, d2, d3] => { results := [.lit (.bool true)], args := [d1, d2, d3] }
  | _ => none }
def rtoNearsRow : OpenClaim := { program := "ytecgfhkdpphhcaa", sum := "abac79dcda1c4bd1fa03e6da251331248fceb30c603f8d83e0dcbdc17f812b3f", func := "towline/towlinelaw10.RtoNears", spec := "rtoNears", apart := false }
def RtoNearsSaid : Prop := rtoNearsRow.holds Try.pinned (OpenSpec.ofChange rtoNearsSpec)

/-- ITS FALSE NEIGHBOUR: 'it returns false'. Refute it at one input. -/
def rtoNearsWrong : ChangeSpec := { name := "rtoNears", fn := fun _ => fun
  | [d1, d2, d3] => { results := [.lit (.bool false)], args := [d1, d2, d3] }
  | _ => none }
def RtoNearsWrongFalsely : Prop := rtoNearsRow.holds Try.pinned (OpenSpec.ofChange rtoNearsWrong)

/-- 'towlinelaw10.RtoMore': WHATEVER THE INPUT: true; the input reads as it did. -/
def rtoMoreSpec : ChangeSpec := { name := "rtoMore", fn := fun _ => fun
  | [d1, d2, d3] => { results := [.lit (.bool true)], args := [d1, d2, d3] }
  | _ => none }
def rtoMoreRow : OpenClaim := { program := "ytecgfhkdpphhcaa", sum := "abac79dcda1c4bd1fa03e6da251331248fceb30c603f8d83e0dcbdc17f812b3f", func := "towline/towlinelaw10.RtoMore", spec := "rtoMore", apart := false }
def RtoMoreSaid : Prop := rtoMoreRow.holds Try.pinned (OpenSpec.ofChange rtoMoreSpec)

/-- ITS FALSE NEIGHBOUR: 'it returns false'. Refute it at one input. -/
def rtoMoreWrong : ChangeSpec := { name := "rtoMore", fn := fun _ => fun
  | [d1, d2, d3] => { results := [.lit (.bool false)], args := [d1, d2, d3] }
  | _ => none }
def RtoMoreWrongFalsely : Prop := rtoMoreRow.holds Try.pinned (OpenSpec.ofChange rtoMoreWrong)

/-- 'towlinelaw10.RtoHolds': WHATEVER THE INPUT: true; the input reads as it did. -/
def rtoHoldsSpec : ChangeSpec := { name := "rtoHolds", fn := fun _ => fun
  | [d] => { results := [.lit (.bool true)], args := [d] }
  | _ => none }
def rtoHoldsRow : OpenClaim := { program := "ytecgfhkdpphhcaa", sum := "abac79dcda1c4bd1fa03e6da251331248fceb30c603f8d83e0dcbdc17f812b3f", func := "towline/towlinelaw10.RtoHolds", spec := "rtoHolds", apart := false }
def RtoHoldsSaid : Prop := rtoHoldsRow.holds Try.pinned (OpenSpec.ofChange rtoHoldsSpec)

/-- ITS FALSE NEIGHBOUR: 'it returns false'. Refute it at one input. -/
def rtoHoldsWrong : ChangeSpec := { name := "rtoHolds", fn := fun _ => fun
  | [d] => { results := [.lit (.bool false)], args := [d] }
  | _ => none }
def RtoHoldsWrongFalsely : Prop := rtoHoldsRow.holds Try.pinned (OpenSpec.ofChange rtoHoldsWrong)

/-- 'towlinelaw10.RtoBacks': WHATEVER THE INPUT: true; the input reads as it did. -/
def rtoBacksSpec : ChangeSpec := { name := "rtoBacks", fn := fun _ => fun
  | [d1, d2] => { results := [.lit (.bool true)], args := [d1, d2] }
  | _ => none }
def rtoBacksRow : OpenClaim := { program := "ytecgfhkdpphhcaa", sum := "abac79dcda1c4bd1fa03e6da251331248fceb30c603f8d83e0dcbdc17f812b3f", func := "towline/towlinelaw10.RtoBacks", spec := "rtoBacks", apart := false }
def RtoBacksSaid : Prop := rtoBacksRow.holds Try.pinned (OpenSpec.ofChange rtoBacksSpec)

/-- ITS FALSE NEIGHBOUR: 'it returns false'. Refute it at one input. -/
def rtoBacksWrong : ChangeSpec := { name := "rtoBacks", fn := fun _ => fun
  | [d1, d2] => { results := [.lit (.bool false)], args := [d1, d2] }
  | _ => none }
def RtoBacksWrongFalsely : Prop := rtoBacksRow.holds Try.pinned (OpenSpec.ofChange rtoBacksWrong)

/-- 'towlinelaw11.WindowMays': WHATEVER THE INPUT: true; the input reads as it did. -/
def windowMaysSpec : ChangeSpec := { name := "windowMays", fn := fun _ => fun
  | [d1, d2, d3] => { results := [.lit (.bool true)], args := [d1, d2, d3] }
  | _ => none }
def windowMaysRow : OpenClaim := { program := "ytecgfhkdpphhcaa", sum := "abac79dcda1c4bd1fa03e6da251331248fceb30c603f8d83e0dcbdc17f812b3f", func := "towline/towlinelaw11.WindowMays", spec := "windowMays", unfollowed := true, recurses := true, apart := false }
def WindowMaysSaid : Prop := windowMaysRow.holds Try.pinned (OpenSpec.ofChange windowMaysSpec)

/-- ITS FALSE NEIGHBOUR: 'it returns false'. Refute it at one input. -/
def windowMaysWrong : ChangeSpec := { name := "windowMays", fn := fun _ => fun
  | [d1, d2, d3] => { results := [.lit (.bool false)], args := [d1, d2, d3] }
  | _ => none }
def WindowMaysWrongFalsely : Prop := windowMaysRow.holds Try.pinned (OpenSpec.ofChange windowMaysWrong)

/-- 'towlinelaw11.WindowGrows': WHATEVER THE INPUT: true; the input reads as it did. -/
def windowGrowsSpec : ChangeSpec := { name := "windowGrows", fn := fun _ => fun
  | [d1, d2] => { results := [.lit (.bool true)], args := [d1, d2] }
  | _ => none }
def windowGrowsRow : OpenClaim := { program := "ytecgfhkdpphhcaa", sum := "abac79dcda1c4bd1fa03e6da251331248fceb30c603f8d83e0dcbdc17f812b3f", func := "towline/towlinelaw11.WindowGrows", spec := "windowGrows", unfollowed := true, recurses := true, apart := false }
def WindowGrowsSaid : Prop := windowGrowsRow.holds Try.pinned (OpenSpec.ofChange windowGrowsSpec)

/-- ITS FALSE NEIGHBOUR: 'it returns false'. Refute it at one input. -/
def windowGrowsWrong : ChangeSpec := { name := "windowGrows", fn := fun _ => fun
  | [d1, d2] => { results := [.lit (.bool false)], args := [d1, d2] }
  | _ => none }
def WindowGrowsWrongFalsely : Prop := windowGrowsRow.holds Try.pinned (OpenSpec.ofChange windowGrowsWrong)

/-- 'towlinelaw11.WindowHolds': WHATEVER THE INPUT: true; the input reads as it did. -/
def windowHoldsSpec : ChangeSpec := { name := "windowHolds", fn := fun _ => fun
  | [d] => { results := [.lit (.bool true)], args := [d] }
  | _ => none }
def windowHoldsRow : OpenClaim := { program := "ytecgfhkdpphhcaa", sum := "abac79dcda1c4bd1fa03e6da251331248fceb30c603f8d83e0dcbdc17f812b3f", func := "towline/towlinelaw11.WindowHolds", spec := "windowHolds", unfollowed := true, recurses := true, apart := false }
def WindowHoldsSaid : Prop := windowHoldsRow.holds Try.pinned (OpenSpec.ofChange windowHoldsSpec)

/-- ITS FALSE NEIGHBOUR: 'it returns false'. Refute it at one input. -/
def windowHoldsWrong : ChangeSpec := { name := "windowHolds", fn := fun _ => fun
  | [d] => { results := [.lit (.bool false)], args := [d] }
  | _ => none }
def WindowHoldsWrongFalsely : Prop := windowHoldsRow.holds Try.pinned (OpenSpec.ofChange windowHoldsWrong)

/-- 'towlinelaw11.WindowLosses': WHATEVER THE INPUT: true; the input reads as it did. -/
def windowLossesSpec : ChangeSpec := { name := "windowLosses", fn := fun _ => fun
  | [d] => { results := [.lit (.bool true)], args := [d] }
  | _ => none }
def windowLossesRow : OpenClaim := { program := "ytecgfhkdpphhcaa", sum := "abac79dcda1c4bd1fa03e6da251331248fceb30c603f8d83e0dcbdc17f812b3f", func := "towline/towlinelaw11.WindowLosses", spec := "windowLosses", unfollowed := true, recurses := true, apart := false }
def WindowLossesSaid : Prop := windowLossesRow.holds Try.pinned (OpenSpec.ofChange windowLossesSpec)

/-- ITS FALSE NEIGHBOUR: 'it returns false'. Refute it at one input. -/
def windowLossesWrong : ChangeSpec := { name := "windowLosses", fn := fun _ => fun
  | [d] => { results := [.lit (.bool false)], args := [d] }
  | _ => none }
def WindowLossesWrongFalsely : Prop := windowLossesRow.holds Try.pinned (OpenSpec.ofChange windowLossesWrong)

/- THE SECOND FORM. 'bulk': how many values and letters a reading holds, each counted each time it is reached (what is shared counts as often as it is met; a slice's spare places count too). A statement '..UptoSaid' is the law's where the arguments, and the package variables that the reading takes, are together of bulk at most 1048576: NARROWER than '..Said'. Prove '..Said' where nothing that the law and all that it calls make is longer than what came in: it says more and counts as full. Else prove '..UptoSaid'. A law counts once. -/
mutual
def uptoBulk {H : Type} : DataW H → Nat
  | .lit (.string bytes) => bytes.length + 1
  | .lit _ => 1
  | .nil => 1
  | .ptr d => uptoBulk d + 1
  | .slice elems spare => uptoBulkAll elems + uptoBulkAll spare + 1
  | .agg parts => uptoBulkAll parts + 1
  | .iface _ d => uptoBulk d + 1
  | .map entries => uptoBulkEntries entries + 1
  | .held _ => 1
def uptoBulkAll {H : Type} : List (DataW H) → Nat
  | [] => 0
  | d :: r => uptoBulk d + uptoBulkAll r
def uptoBulkEntries {H : Type} : List (Lit × DataW H) → Nat
  | [] => 0
  | x :: r => uptoBulkEntry x + uptoBulkEntries r
def uptoBulkEntry {H : Type} : Lit × DataW H → Nat
  | (.string bytes, d) => bytes.length + uptoBulk d + 1
  | (_, d) => uptoBulk d + 1
 end
def uptoSmall : (H : Type) → List (DataW H) → Bool := fun _ ds => decide (uptoBulkAll ds ≤ 1048576)
def OpenSpec.upto (s : _root_.Go.ChangeSpec) : _root_.Go.OpenSpec := { _root_.Go.OpenSpec.ofChange s with cond := some uptoSmall }

/-- 'towlinelaw10.RtoNears', WHERE WHAT IT READS IS OF BULK AT MOST 1048576: true; the input reads as it did. -/
def rtoNearsUptoRow : OpenClaim := { program := "ytecgfhkdpphhcaa", sum := "abac79dcda1c4bd1fa03e6da251331248fceb30c603f8d83e0dcbdc17f812b3f", func := "towline/towlinelaw10.RtoNears", spec := "rtoNears", apart := false, narrowed := true }
def RtoNearsUptoSaid : Prop := rtoNearsUptoRow.holds Try.pinned (OpenSpec.upto rtoNearsSpec)

/-- 'towlinelaw10.RtoMore', WHERE WHAT IT READS IS OF BULK AT MOST 1048576: true; the input reads as it did. -/
def rtoMoreUptoRow : OpenClaim := { program := "ytecgfhkdpphhcaa", sum := "abac79dcda1c4bd1fa03e6da251331248fceb30c603f8d83e0dcbdc17f812b3f", func := "towline/towlinelaw10.RtoMore", spec := "rtoMore", apart := false, narrowed := true }
def RtoMoreUptoSaid : Prop := rtoMoreUptoRow.holds Try.pinned (OpenSpec.upto rtoMoreSpec)

/-- 'towlinelaw10.RtoHolds', WHERE WHAT IT READS IS OF BULK AT MOST 1048576: true; the input reads as it did. -/
def rtoHoldsUptoRow : OpenClaim := { program := "ytecgfhkdpphhcaa", sum := "abac79dcda1c4bd1fa03e6da251331248fceb30c603f8d83e0dcbdc17f812b3f", func := "towline/towlinelaw10.RtoHolds", spec := "rtoHolds", apart := false, narrowed := true }
def RtoHoldsUptoSaid : Prop := rtoHoldsUptoRow.holds Try.pinned (OpenSpec.upto rtoHoldsSpec)

/-- 'towlinelaw10.RtoBacks', WHERE WHAT IT READS IS OF BULK AT MOST 1048576: true; the input reads as it did. -/
def rtoBacksUptoRow : OpenClaim := { program := "ytecgfhkdpphhcaa", sum := "abac79dcda1c4bd1fa03e6da251331248fceb30c603f8d83e0dcbdc17f812b3f", func := "towline/towlinelaw10.RtoBacks", spec := "rtoBacks", apart := false, narrowed := true }
def RtoBacksUptoSaid : Prop := rtoBacksUptoRow.holds Try.pinned (OpenSpec.upto rtoBacksSpec)

/-- 'towlinelaw11.WindowMays', WHERE WHAT IT READS IS OF BULK AT MOST 1048576: true; the input reads as it did. -/
def windowMaysUptoRow : OpenClaim := { program := "ytecgfhkdpphhcaa", sum := "abac79dcda1c4bd1fa03e6da251331248fceb30c603f8d83e0dcbdc17f812b3f", func := "towline/towlinelaw11.WindowMays", spec := "windowMays", unfollowed := true, recurses := true, apart := false, narrowed := true }
def WindowMaysUptoSaid : Prop := windowMaysUptoRow.holds Try.pinned (OpenSpec.upto windowMaysSpec)

/-- 'towlinelaw11.WindowGrows', WHERE WHAT IT READS IS OF BULK AT MOST 1048576: true; the input reads as it did. -/
def windowGrowsUptoRow : OpenClaim := { program := "ytecgfhkdpphhcaa", sum := "abac79dcda1c4bd1fa03e6da251331248fceb30c603f8d83e0dcbdc17f812b3f", func := "towline/towlinelaw11.WindowGrows", spec := "windowGrows", unfollowed := true, recurses := true, apart := false, narrowed := true }
def WindowGrowsUptoSaid : Prop := windowGrowsUptoRow.holds Try.pinned (OpenSpec.upto windowGrowsSpec)

/-- 'towlinelaw11.WindowHolds', WHERE WHAT IT READS IS OF BULK AT MOST 1048576: true; the input reads as it did. -/
def windowHoldsUptoRow : OpenClaim := { program := "ytecgfhkdpphhcaa", sum := "abac79dcda1c4bd1fa03e6da251331248fceb30c603f8d83e0dcbdc17f812b3f", func := "towline/towlinelaw11.WindowHolds", spec := "windowHolds", unfollowed := true, recurses := true, apart := false, narrowed := true }
def WindowHoldsUptoSaid : Prop := windowHoldsUptoRow.holds Try.pinned (OpenSpec.upto windowHoldsSpec)

/-- 'towlinelaw11.WindowLosses', WHERE WHAT IT READS IS OF BULK AT MOST 1048576: true; the input reads as it did. -/
def windowLossesUptoRow : OpenClaim := { program := "ytecgfhkdpphhcaa", sum := "abac79dcda1c4bd1fa03e6da251331248fceb30c603f8d83e0dcbdc17f812b3f", func := "towline/towlinelaw11.WindowLosses", spec := "windowLosses", unfollowed := true, recurses := true, apart := false, narrowed := true }
def WindowLossesUptoSaid : Prop := windowLossesUptoRow.holds Try.pinned (OpenSpec.upto windowLossesSpec)

end Rows
end Go.Proofs.Ytecgfhkdpphhcaa
