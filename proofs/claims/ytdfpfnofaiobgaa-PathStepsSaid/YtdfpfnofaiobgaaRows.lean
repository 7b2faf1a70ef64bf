/-
  No cell of these rows narrows 'for every input' (looked for: loops, veiled, ifaces, maps, wideKeys, modest, calm, conditions, laid).
  DERIVED. THE GIVEN ROWS OF THIS SEAT. 5 by the template 'for every input the law returns true; each argument reads behind the call as it read before'; 0 by the template 'total and deterministic' (their statements: YtdfpfnofaiobgaaTotals.lean).
  GIVEN WITH THE SEED: the statements are not yours to turn. If you find one false, say at which input.
  Laid BY PROGRAM, IN A SANDBOX (cutbox-rows.mjs): the forced cells as the released guide's own fill.sh prints them over the translation e1d2c5596a1c07d1… (all of the seat's roots in one cut). By AI agents, Wed Nov 11 2026. No macro, syntax, notation, axiom, sorry.
-/
import Derived.Test.YtdfpfnofaiobgaaChecked
import GoSem.Claim
import GoSem.ClaimJoined
import GoSem.ClaimMapViews
import Derived.JoinedTies
import Derived.KernelRfl
namespace Go.Proofs.Ytdfpfnofaiobgaa
/- THE CELL 'sum', in the pinned program and in every row, IS THE sha256 OF THE DUMP (.gsa) THAT YtdfpfnofaiobgaaProg.lean LOADS. Nothing in Lean hashes anything: it is a label: what it is worth is what the hold of that sum in a sandbox is worth. -/
noncomputable def Try.pinned : Pinned := { name := "ytdfpfnofaiobgaa", sum := "e1d2c5596a1c07d1109e182f32532c66d1cd3d1a8e861f65aa8c7c38bb32e12d", checked := Try.checked }
namespace Rows
def none {H : Type} : Left H := { results := [], args := [] }

/-- 'towlinelaw12.PathNews': WHATEVER THE INPUT: true; the input reads as it did. -/
def pathNewsSpec : ChangeSpec := { name := "pathNews", fn := fun _ => fun
  | [d1, d2, d3] => { results := [.lit (.bool true)], args := [d1, d2, d3] }
  | _ => none }
def pathNewsRow : OpenClaim := { program := "ytdfpfnofaiobgaa", sum := "e1d2c5596a1c07d1109e182f32532c66d1cd3d1a8e861f65aa8c7c38bb32e12d", func := "towline/towlinelaw12.PathNews", spec := "pathNews", unfollowed := true, recurses := true, apart := false }
def PathNewsSaid : Prop := pathNewsRow.holds Try.pinned (OpenSpec.ofChange pathNewsSpec)

/-- ITS FALSE NEIGHBOUR: 'it returns false'. Refute it at one input. -/
def pathNewsWrong : ChangeSpec := { name := "pathNews", fn := fun _ => fun
  | [d1, d2, d3] => { results := [.lit (.bool false)], args := [d1, d2, d3] }
  | _ => none }
def PathNewsWrongFalsely : Prop := pathNewsRow.holds Try.pinned (OpenSpec.ofChange pathNewsWrong)

/-- 'towlinelaw12.PathNots': WHATEVER THE INPUT: true; the input reads as it did. -/
def pathNotsSpec : ChangeSpec := { name := "pathNots", fn := fun _ => fun
  | [d1, d2] => { results := [.lit (.bool true)], args := [d1, d2] }
  | _ => none }
def pathNotsRow : OpenClaim := { program := "ytdfpfnofaiobgaa", sum := "e1d2c5596a1c07d1109e182f32532c66d1cd3d1a8e861f65aa8c7c38bb32e12d", func := "towline/towlinelaw12.PathNots", spec := "pathNots", unfollowed := true, recurses := true, apart := false }
def PathNotsSaid : Prop := pathNotsRow.holds Try.pinned (OpenSpec.ofChange pathNotsSpec)

/-- ITS FALSE NEIGHBOUR: 'it returns false'. Refute it at one input. -/
def pathNotsWrong : ChangeSpec := { name := "pathNots", fn := fun _ => fun
  | [d1, d2] => { results := [.lit (.bool false)], args := [d1, d2] }
  | _ => none }
def PathNotsWrongFalsely : Prop := pathNotsRow.holds Try.pinned (OpenSpec.ofChange pathNotsWrong)

/-- 'towlinelaw12.PathErrors': WHATEVER THE INPUT: true; the input reads as it did. -/
def pathErrorsSpec : ChangeSpec := { name := "pathErrors", fn := fun _ => fun
  | [d1, d2] => { results := [.lit (.bool true)], args := [d1, d2] }
  | _ => none }
def pathErrorsRow : OpenClaim := { program := "ytdfpfnofaiobgaa", sum := "e1d2c5596a1c07d1109e182f32532c66d1cd3d1a8e861f65aa8c7c38bb32e12d", func := "towline/towlinelaw12.PathErrors", spec := "pathErrors", unfollowed := true, recurses := true, apart := false }
def PathErrorsSaid : Prop := pathErrorsRow.holds Try.pinned (OpenSpec.ofChange pathErrorsSpec)

/-- ITS FALSE NEIGHBOUR: 'it returns false'. Refute it at one input. -/
def pathErrorsWrong : ChangeSpec := { name := "pathErrors", fn := fun _ => fun
  | [d1, d2] => { results := [.lit (.bool false)], args := [d1, d2] }
  | _ => none }
def PathErrorsWrongFalsely : Prop := pathErrorsRow.holds Try.pinned (OpenSpec.ofChange pathErrorsWrong)

/-- 'towlinelaw12.PathSteps': WHATEVER THE INPUT: true; the input reads as it did. -/
def pathStepsSpec : ChangeSpec := { name := "pathSteps", fn := fun _ => fun
  | [d1, d2, d3, d4] => { results := [.lit (.bool true)], args := [d1, d2, d3, d4] }
  | _ => none }
def pathStepsRow : OpenClaim := { program := "ytdfpfnofaiobgaa", sum := "e1d2c5596a1c07d1109e182f32532c66d1cd3d1a8e861f65aa8c7c38bb32e12d", func := "towline/towlinelaw12.PathSteps", spec := "pathSteps", unfollowed := true, recurses := true, apart := false }
def PathStepsSaid : Prop := pathStepsRow.holds Try.pinned (OpenSpec.ofChange pathStepsSpec)

/-- ITS FALSE NEIGHBOUR: 'it returns false'. Refute it at one input. -/
def pathStepsWrong : ChangeSpec := { name := "pathSteps", fn := fun _ => fun
  | [d1, d2, d3, d4] => { results := [.lit (.bool false)], args := [d1, d2, d3, d4] }
  | _ => none }
def PathStepsWrongFalsely : Prop := pathStepsRow.holds Try.pinned (OpenSpec.ofChange pathStepsWrong)

/-- 'towlinelaw12.PathPlays': WHATEVER THE INPUT: true; the input reads as it did. -/
def pathPlaysSpec : ChangeSpec := { name := "pathPlays", fn := fun _ => fun
  | [d] => { results := [.lit (.bool true)], args := [d] }
  | _ => none }
def pathPlaysRow : OpenClaim := { program := "ytdfpfnofaiobgaa", sum := "e1d2c5596a1c07d1109e182f32532c66d1cd3d1a8e861f65aa8c7c38bb32e12d", func := "towline/towlinelaw12.PathPlays", spec := "pathPlays", unfollowed := true, recurses := true, apart := false }
def PathPlaysSaid : Prop := pathPlaysRow.holds Try.pinned (OpenSpec.ofChange pathPlaysSpec)

/-- ITS FALSE NEIGHBOUR: 'it returns false'. Refute it at one input. -/
def pathPlaysWrong : ChangeSpec := { name := "pathPlays", fn := fun _ => fun
  | [d] => { results := [.lit (.bool false)], args := [d] }
  | _ => none }
def PathPlaysWrongFalsely : Prop := pathPlaysRow.holds Try.pinned (OpenSpec.ofChange pathPlaysWrong)

/- THE SECOND FORM. 'bulk': how many values and letters a reading holds, each counted each time it is reached (what is shared counts as often as it is met; a slice's spare places count too). A statement '..UptoSaid' is the law's where the arguments, and the package variables that the reading takes, are together of bulk at most 1048576: NARROWER than '..Said'. Prove '..Said' where nothing that the law and all that it calls make is longer than what came in: it says more and counts as full. Else prove '..UptoSaid'. A law counts once. -/
mutual
def uptoBulk {H : Type} : DataW H → Nat
  | .lit (.string bytes) => bytes.length + 1
  | .lit _ => 1
  | .nil => 1
  | .ptr d => uptoBulk d + 1
  | .slice elems spare => uptoBulkAll elems + uptoBulkAll spare + 1
  | .agg parts => uptoBulkAll parts + 1
  | .iface _ d => uptoBulk d + 1
  | .map entries => uptoBulkEntries entries + 1
  | .held _ => 1
def uptoBulkAll {H : Type} : List (DataW H) → Nat
  | [] => 0
  | d :: r => uptoBulk d + uptoBulkAll r
def uptoBulkEntries {H : Type} : List (Lit × DataW H) → Nat
  | [] => 0
  | x :: r => uptoBulkEntry x + uptoBulkEntries r
def uptoBulkEntry {H : Type} : Lit × DataW H → Nat
  | (.string bytes, d) => bytes.length + uptoBulk d + 1
  | (_, d) => uptoBulk d + 1
 end
def uptoSmall : (H : Type) → List (DataW H) → Bool := fun _ ds => decide (uptoBulkAll ds ≤ 1048576)
def OpenSpec.upto (s : _root_.Go.ChangeSpec) : _root_.Go.OpenSpec := { _root_.Go.OpenSpec.ofChange s with cond := some uptoSmall }

/-- 'towlinelaw12.PathNews', WHERE WHAT IT READS IS OF BULK AT MOST 1048576: true; the input reads as it did. -/
def pathNewsUptoRow : OpenClaim := { program := "ytdfpfnofaiobgaa", sum := "e1d2c5596a1c07d1109e182f32532c66d1cd3d1a8e861f65aa8c7c38bb32e12d", func := "towline/towlinelaw12.PathNews", spec := "pathNews", unfollowed := true, recurses := true, apart := false, narrowed := true }
def PathNewsUptoSaid : Prop := pathNewsUptoRow.holds Try.pinned (OpenSpec.upto pathNewsSpec)

/-- 'towlinelaw12.PathNots', WHERE WHAT IT READS IS OF BULK AT MOST 1048576: true; the input reads as it did. -/
def pathNotsUptoRow : OpenClaim := { program := "ytdfpfnofaiobgaa", sum := "e1d2c5596a1c07d1109e182f32532c66d1cd3d1a8e861f65aa8c7c38bb32e12d", func := "towline/towlinelaw12.PathNots", spec := "pathNots", unfollowed := true, recurses := true, apart := false, narrowed := true }
def PathNotsUptoSaid : Prop := pathNotsUptoRow.holds Try.pinned (OpenSpec.upto pathNotsSpec)

/-- 'towlinelaw12.PathErrors', WHERE WHAT IT READS IS OF BULK AT MOST 1048576: true; the input reads as it did. -/
def pathErrorsUptoRow : OpenClaim := { program := "ytdfpfnofaiobgaa", sum := "e1d2c5596a1c07d1109e182f32532c66d1cd3d1a8e861f65aa8c7c38bb32e12d", func := "towline/towlinelaw12.PathErrors", spec := "pathErrors", unfollowed := true, recurses := true, apart := false, narrowed := true }
def PathErrorsUptoSaid : Prop := pathErrorsUptoRow.holds Try.pinned (OpenSpec.upto pathErrorsSpec)

/-- 'towlinelaw12.PathSteps', WHERE WHAT IT READS IS OF BULK AT MOST 1048576: true; the input reads as it did. -/
def pathStepsUptoRow : OpenClaim := { program := "ytdfpfnofaiobgaa", sum := "e1d2c5596a1c07d1109e182f32532c66d1cd3d1a8e861f65aa8c7c38bb32e12d", func := "towline/towlinelaw12.PathSteps", spec := "pathSteps", unfollowed := true, recurses := true, apart := false, narrowed := true }
def PathStepsUptoSaid : Prop := pathStepsUptoRow.holds Try.pinned (OpenSpec.upto pathStepsSpec)

/-- 'towlinelaw12.PathPlays', WHERE WHAT IT READS IS OF BULK AT MOST 1048576: true; the input reads as it did. -/
def pathPlaysUptoRow : OpenClaim := { program := "ytdfpfnofaiobgaa", sum := "e1d2c5596a1c07d1109e182f32532c66d1cd3d1a8e861f65aa8c7c38bb32e12d", func := "towline/towlinelaw12.PathPlays", spec := "pathPlays", unfollowed := true, recurses := true, apart := false, narrowed := true }
def PathPlaysUptoSaid : Prop := pathPlaysUptoRow.holds Try.pinned (OpenSpec.upto pathPlaysSpec)

end Rows
end Go.Proofs.Ytdfpfnofaiobgaa
