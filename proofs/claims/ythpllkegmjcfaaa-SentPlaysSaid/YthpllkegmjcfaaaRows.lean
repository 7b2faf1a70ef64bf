/-
  No cell of these rows narrows 'for every input' (looked for: loops, veiled, ifaces, maps, wideKeys, modest, calm, conditions, laid).
  DERIVED. THE GIVEN ROWS OF THIS SEAT. 4 by the template 'for every input the law returns true; each argument reads behind the call as it read before'; 0 by the template 'total and deterministic' (their statements: YthpllkegmjcfaaaTotals.lean).
  GIVEN WITH THE SEED: the statements are not yours to turn. If you find one false, say at which input.
  Laid BY PROGRAM, IN A SANDBOX (cutbox-rows.mjs): the forced cells as the released guide's own fill.sh prints them over the translation c6f24525fa0e6101… (all of the seat's roots in one cut). By AI agents, Wed Nov 11 2026. No macro, syntax, notation, axiom, sorry.
-/
import Derived.Test.YthpllkegmjcfaaaChecked
import GoSem.Claim
import GoSem.ClaimJoined
import GoSem.ClaimMapViews
import Derived.JoinedTies
import Derived.KernelRfl
namespace Go.Proofs.Ythpllkegmjcfaaa
/- THE CELL 'sum', in the pinned program and in every row, IS THE sha256 OF THE DUMP (.gsa) THAT YthpllkegmjcfaaaProg.lean LOADS. Nothing in Lean hashes anything: it is a label: what it is worth is what the hold of that sum in a sandbox is worth. -/
noncomputable def Try.pinned : Pinned := { name := "ythpllkegmjcfaaa", sum := "c6f24525fa0e61010d66578f7ff11155dad167e91dc2f2411083e8a8d8da052a", checked := Try.checked }
namespace Rows
def none {H : Type} : Left H := { results := [], args := [] }

/-- 'towlinelaw14.SentBytes': WHATEVER THE INPUT: true; the input reads as it did. -/
def sentBytesSpec : ChangeSpec := { name := "sentBytes", fn := fun _ => fun
  | [d1, d2, d3, d4] => { results := [.lit (.bool true)], args := [d1, d2, d3, d4] }
  | _ => none }
def sentBytesRow : OpenClaim := { program := "ythpllkegmjcfaaa", sum := "c6f24525fa0e61010d66578f7ff11155dad167e91dc2f2411083e8a8d8da052a", func := "towline/towlinelaw14.SentBytes", spec := "sentBytes", apart := false }
def SentBytesSaid : Prop := sentBytesRow.holds Try.pinned (OpenSpec.ofChange sentBytesSpec)

/-- ITS FALSE NEIGHBOUR: 'it returns false'. Refute it at one input. -/
def sentBytesWrong : ChangeSpec := { name := "sentBytes", fn := fun _ => fun
  | [d1, d2, d3, d4] => { results := [.lit (.bool false)], args := [d1, d2, d3, d4] }
  | _ => none }
def SentBytesWrongFalsely : Prop := sentBytesRow.holds Try.pinned (OpenSpec.ofChange sentBytesWrong)

/-- 'towlinelaw14.SentWhole': WHATEVER THE INPUT: true; the input reads as it did. -/
def sentWholeSpec : ChangeSpec := { name := "sentWhole", fn := fun _ => fun
  | [d1, d2, d3] => { results := [.lit (.bool true)], args := [d1, d2, d3] }
  | _ => none }
def sentWholeRow : OpenClaim := { program := "ythpllkegmjcfaaa", sum := "c6f24525fa0e61010d66578f7ff11155dad167e91dc2f2411083e8a8d8da052a", func := "towline/towlinelaw14.SentWhole", spec := "sentWhole", apart := false }
def SentWholeSaid : Prop := sentWholeRow.holds Try.pinned (OpenSpec.ofChange sentWholeSpec)

/-- ITS FALSE NEIGHBOUR: 'it returns false'. Refute it at one input. -/
def sentWholeWrong : ChangeSpec := { name := "sentWhole", fn := fun _ => fun
  | [d1, d2, d3] => { results := [.lit (.bool false)], args := [d1, d2, d3] }
  | _ => none }
def SentWholeWrongFalsely : Prop := sentWholeRow.holds Try.pinned (OpenSpec.ofChange sentWholeWrong)

/-- 'towlinelaw14.SentPlays': WHATEVER THE INPUT: true; the input reads as it did. -/
def sentPlaysSpec : ChangeSpec := { name := "sentPlays", fn := fun _ => fun
  | [d1, d2] => { results := [.lit (.bool true)], args := [d1, d2] }
  | _ => none }
def sentPlaysRow : OpenClaim := { program := "ythpllkegmjcfaaa", sum := "c6f24525fa0e61010d66578f7ff11155dad167e91dc2f2411083e8a8d8da052a", func := "towline/towlinelaw14.SentPlays", spec := "sentPlays", unfollowed := true, recurses := true, apart := false }
def SentPlaysSaid : Prop := sentPlaysRow.holds Try.pinned (OpenSpec.ofChange sentPlaysSpec)

/-- ITS FALSE NEIGHBOUR: 'it returns false'. Refute it at one input. -/
def sentPlaysWrong : ChangeSpec := { name := "sentPlays", fn := fun _ => fun
  | [d1, d2] => { results := [.lit (.bool false)], args := [d1, d2] }
  | _ => none }
def SentPlaysWrongFalsely : Prop := sentPlaysRow.holds Try.pinned (OpenSpec.ofChange sentPlaysWrong)

/-- 'towlinelaw14.SentLosses': WHATEVER THE INPUT: true; the input reads as it did. -/
def sentLossesSpec : ChangeSpec := { name := "sentLosses", fn := fun _ => fun
  | [d1, d2, d3, d4] => { results := [.lit (.bool true)], args := [d1, d2, d3, d4] }
  | _ => none }
def sentLossesRow : OpenClaim := { program := "ythpllkegmjcfaaa", sum := "c6f24525fa0e61010d66578f7ff11155dad167e91dc2f2411083e8a8d8da052a", func := "towline/towlinelaw14.SentLosses", spec := "sentLosses", unfollowed := true, recurses := true, apart := false }
def SentLossesSaid : Prop := sentLossesRow.holds Try.pinned (OpenSpec.ofChange sentLossesSpec)

/-- ITS FALSE NEIGHBOUR: 'it returns false'. Refute it at one input. -/
def sentLossesWrong : ChangeSpec := { name := "sentLosses", fn := fun _ => fun
  | [d1, d2, d3, d4] => { results := [.lit (.bool false)], args := [d1, d2, d3, d4] }
  | _ => none }
def SentLossesWrongFalsely : Prop := sentLossesRow.holds Try.pinned (OpenSpec.ofChange sentLossesWrong)

/- THE SECOND FORM. 'bulk': how many values and letters a reading holds, each counted each time it is reached (what is shared counts as often as it is met; a slice's spare places count too). A statement '..UptoSaid' is the law's where the arguments, and the package variables that the reading takes, are together of bulk at most 1048576: NARROWER than '..Said'. Prove '..Said' where nothing that the law and all that it calls make is longer than what came in: it says more and counts as full. Else prove '..UptoSaid'. A law counts once. -/
mutual
def uptoBulk {H : Type} : DataW H → Nat
  | .lit (.string bytes) => bytes.length + 1
  | .lit _ => 1
  | .nil => 1
  | .ptr d => uptoBulk d + 1
  | .slice elems spare => uptoBulkAll elems + uptoBulkAll spare + 1
  | .agg parts => uptoBulkAll parts + 1
  | .iface _ d => uptoBulk d + 1
  | .map entries => uptoBulkEntries entries + 1
  | .held _ => 1
def uptoBulkAll {H : Type} : List (DataW H) → Nat
  | [] => 0
  | d :: r => uptoBulk d + uptoBulkAll r
def uptoBulkEntries {H : Type} : List (Lit × DataW H) → Nat
  | [] => 0
  | x :: r => uptoBulkEntry x + uptoBulkEntries r
def uptoBulkEntry {H : Type} : Lit × DataW H → Nat
  | (.string bytes, d) => bytes.length + uptoBulk d + 1
  | (_, d) => uptoBulk d + 1
 end
def uptoSmall : (H : Type) → List (DataW H) → Bool := fun _ ds => decide (uptoBulkAll ds ≤ 1048576)
def OpenSpec.upto (s : _root_.Go.ChangeSpec) : _root_.Go.OpenSpec := { _root_.Go.OpenSpec.ofChange s with cond := some uptoSmall }

/-- 'towlinelaw14.SentBytes', WHERE WHAT IT READS IS OF BULK AT MOST 1048576: true; the input reads as it did. -/
def sentBytesUptoRow : OpenClaim := { program := "ythpllkegmjcfaaa", sum := "c6f24525fa0e61010d66578f7ff11155dad167e91dc2f2411083e8a8d8da052a", func := "towline/towlinelaw14.SentBytes", spec := "sentBytes", apart := false, narrowed := true }
def SentBytesUptoSaid : Prop := sentBytesUptoRow.holds Try.pinned (OpenSpec.upto sentBytesSpec)

/-- 'towlinelaw14.SentWhole', WHERE WHAT IT READS IS OF BULK AT MOST 1048576: true; the input reads as it did. -/
def sentWholeUptoRow : OpenClaim := { program := "ythpllkegmjcfaaa", sum := "c6f24525fa0e61010d66578f7ff11155dad167e91dc2f2411083e8a8d8da052a", func := "towline/towlinelaw14.SentWhole", spec := "sentWhole", apart := false, narrowed := true }
def SentWholeUptoSaid : Prop := sentWholeUptoRow.holds Try.pinned (OpenSpec.upto sentWholeSpec)

/-- 'towlinelaw14.SentPlays', WHERE WHAT IT READS IS OF BULK AT MOST 1048576: true; the input reads as it did. -/
def sentPlaysUptoRow : OpenClaim := { program := "ythpllkegmjcfaaa", sum := "c6f24525fa0e61010d66578f7ff11155dad167e91dc2f2411083e8a8d8da052a", func := "towline/towlinelaw14.SentPlays", spec := "sentPlays", unfollowed := true, recurses := true, apart := false, narrowed := true }
def SentPlaysUptoSaid : Prop := sentPlaysUptoRow.holds Try.pinned (OpenSpec.upto sentPlaysSpec)

/-- 'towlinelaw14.SentLosses', WHERE WHAT IT READS IS OF BULK AT MOST 1048576: true; the input reads as it did. -/
def sentLossesUptoRow : OpenClaim := { program := "ythpllkegmjcfaaa", sum := "c6f24525fa0e61010d66578f7ff11155dad167e91dc2f2411083e8a8d8da052a", func := "towline/towlinelaw14.SentLosses", spec := "sentLosses", unfollowed := true, recurses := true, apart := false, narrowed := true }
def SentLossesUptoSaid : Prop := sentLossesUptoRow.holds Try.pinned (OpenSpec.upto sentLossesSpec)

end Rows
end Go.Proofs.Ythpllkegmjcfaaa
