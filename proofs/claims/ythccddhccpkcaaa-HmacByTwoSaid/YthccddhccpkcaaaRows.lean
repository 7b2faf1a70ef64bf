/-
  No cell of these rows narrows 'for every input' (looked for: loops, veiled, ifaces, maps, wideKeys, modest, calm, conditions, laid).
  DERIVED. THE GIVEN ROWS OF THIS SEAT. 4 by the template 'for every input the law returns true; each argument reads behind the call as it read before'; 0 by the template 'total and deterministic' (their statements: YthccddhccpkcaaaTotals.lean).
  GIVEN WITH THE SEED: the statements are not yours to turn. If you find one false, say at which input.
  Laid BY PROGRAM, IN A SANDBOX (cutbox-rows.mjs): the forced cells as the released guide's own fill.sh prints them over the translation 50e19f1cc2683121… (all of the seat's roots in one cut). By AI agents, Wed Nov 11 2026. No macro, syntax, notation, axiom, sorry.
-/
import Derived.Test.YthccddhccpkcaaaChecked
import GoSem.Claim
import GoSem.ClaimJoined
import GoSem.ClaimMapViews
import Derived.JoinedTies
import Derived.KernelRfl
namespace Go.Proofs.Ythccddhccpkcaaa
/- THE CELL 'sum', in the pinned program and in every row, IS THE sha256 OF THE DUMP (.gsa) THAT YthccddhccpkcaaaProg.lean LOADS. Nothing in Lean hashes anything: it is a label: what it is worth is what the hold of that sum in a sandbox is worth. -/
noncomputable def Try.pinned : Pinned := { name := "ythccddhccpkcaaa", sum := "50e19f1cc268312168167175a5861f832dc2153e11d08e1ef23553e205ad69ba", checked := Try.checked }
namespace Rows
def none {H : Type} : Left H := { results := [], args := [] }

/-- 'towlinelaw4.HmacKeys': WHATEVER THE INPUT: true; the input reads as it did. -/
def hmacKeysSpec : ChangeSpec := { name := "hmacKeys", fn := fun _ => fun
  | [d1, d2, d3] => { results := [.lit (.bool true)], args := [d1, d2, d3] }
  | _ => none }
def hmacKeysRow : OpenClaim := { program := "ythccddhccpkcaaa", sum := "50e19f1cc268312168167175a5861f832dc2153e11d08e1ef23553e205ad69ba", func := "towline/towlinelaw4.HmacKeys", spec := "hmacKeys", inPlace := ["internal/abi.NoEscape", "internal/bytealg.MakeNoZero"], unfollowed := true, recurses := true, apart := false }
def HmacKeysSaid : Prop := hmacKeysRow.holds Try.pinned (OpenSpec.ofChange hmacKeysSpec)

/-- ITS FALSE NEIGHBOUR: 'it returns false'. Refute it at one input. -/
def hmacKeysWrong : ChangeSpec := { name := "hmacKeys", fn := fun _ => fun
  | [d1, d2, d3] => { results := [.lit (.bool false)], args := [d1, d2, d3] }
  | _ => none }
def HmacKeysWrongFalsely : Prop := hmacKeysRow.holds Try.pinned (OpenSpec.ofChange hmacKeysWrong)

/-- 'towlinelaw4.HmacByTwo': WHATEVER THE INPUT: true; the input reads as it did. -/
def hmacByTwoSpec : ChangeSpec := { name := "hmacByTwo", fn := fun _ => fun
  | [d1, d2] => { results := [.lit (.bool true)], args := [d1, d2] }
  | _ => none }
def hmacByTwoRow : OpenClaim := { program := "ythccddhccpkcaaa", sum := "50e19f1cc268312168167175a5861f832dc2153e11d08e1ef23553e205ad69ba", func := "towline/towlinelaw4.HmacByTwo", spec := "hmacByTwo", inPlace := ["internal/abi.NoEscape", "internal/bytealg.MakeNoZero"], unfollowed := true, recurses := true, apart := false }
def HmacByTwoSaid : Prop := hmacByTwoRow.holds Try.pinned (OpenSpec.ofChange hmacByTwoSpec)

/-- ITS FALSE NEIGHBOUR: 'it returns false'. Refute it at one input. -/
def hmacByTwoWrong : ChangeSpec := { name := "hmacByTwo", fn := fun _ => fun
  | [d1, d2] => { results := [.lit (.bool false)], args := [d1, d2] }
  | _ => none }
def HmacByTwoWrongFalsely : Prop := hmacByTwoRow.holds Try.pinned (OpenSpec.ofChange hmacByTwoWrong)

/-- 'towlinelaw4.HmacSames': WHATEVER THE INPUT: true; the input reads as it did. -/
def hmacSamesSpec : ChangeSpec := { name := "hmacSames", fn := fun _ => fun
  | [d1, d2, d3] => { results := [.lit (.bool true)], args := [d1, d2, d3] }
  | _ => none }
def hmacSamesRow : OpenClaim := { program := "ythccddhccpkcaaa", sum := "50e19f1cc268312168167175a5861f832dc2153e11d08e1ef23553e205ad69ba", func := "towline/towlinelaw4.HmacSames", spec := "hmacSames", inPlace := ["internal/abi.NoEscape", "internal/bytealg.MakeNoZero"], unfollowed := true, recurses := true, apart := false }
def HmacSamesSaid : Prop := hmacSamesRow.holds Try.pinned (OpenSpec.ofChange hmacSamesSpec)

/-- ITS FALSE NEIGHBOUR: 'it returns false'. Refute it at one input. -/
def hmacSamesWrong : ChangeSpec := { name := "hmacSames", fn := fun _ => fun
  | [d1, d2, d3] => { results := [.lit (.bool false)], args := [d1, d2, d3] }
  | _ => none }
def HmacSamesWrongFalsely : Prop := hmacSamesRow.holds Try.pinned (OpenSpec.ofChange hmacSamesWrong)

/-- 'towlinelaw4.HmacSums': WHATEVER THE INPUT: true; the input reads as it did. -/
def hmacSumsSpec : ChangeSpec := { name := "hmacSums", fn := fun _ => fun
  | [d1, d2, d3] => { results := [.lit (.bool true)], args := [d1, d2, d3] }
  | _ => none }
def hmacSumsRow : OpenClaim := { program := "ythccddhccpkcaaa", sum := "50e19f1cc268312168167175a5861f832dc2153e11d08e1ef23553e205ad69ba", func := "towline/towlinelaw4.HmacSums", spec := "hmacSums", inPlace := ["internal/abi.NoEscape", "internal/bytealg.MakeNoZero"], unfollowed := true, recurses := true, apart := false }
def HmacSumsSaid : Prop := hmacSumsRow.holds Try.pinned (OpenSpec.ofChange hmacSumsSpec)

/-- ITS FALSE NEIGHBOUR: 'it returns false'. Refute it at one input. -/
def hmacSumsWrong : ChangeSpec := { name := "hmacSums", fn := fun _ => fun
  | [d1, d2, d3] => { results := [.lit (.bool false)], args := [d1, d2, d3] }
  | _ => none }
def HmacSumsWrongFalsely : Prop := hmacSumsRow.holds Try.pinned (OpenSpec.ofChange hmacSumsWrong)

/- THE SECOND FORM. 'bulk': how many values and letters a reading holds, each counted each time it is reached (what is shared counts as often as it is met; a slice's spare places count too). A statement '..UptoSaid' is the law's where the arguments, and the package variables that the reading takes, are together of bulk at most 1048576: NARROWER than '..Said'. Prove '..Said' where nothing that the law and all that it calls make is longer than what came in: it says more and counts as full. Else prove '..UptoSaid'. A law counts once. -/
mutual
def uptoBulk {H : Type} : DataW H → Nat
  | .lit (.string bytes) => bytes.length + 1
  | .lit _ => 1
  | .nil => 1
  | .ptr d => uptoBulk d + 1
  | .slice elems spare => uptoBulkAll elems + uptoBulkAll spare + 1
  | .agg parts => uptoBulkAll parts + 1
  | .iface _ d => uptoBulk d + 1
  | .map entries => uptoBulkEntries entries + 1
  | .held _ => 1
def uptoBulkAll {H : Type} : List (DataW H) → Nat
  | [] => 0
  | d :: r => uptoBulk d + uptoBulkAll r
def uptoBulkEntries {H : Type} : List (Lit × DataW H) → Nat
  | [] => 0
  | x :: r => uptoBulkEntry x + uptoBulkEntries r
def uptoBulkEntry {H : Type} : Lit × DataW H → Nat
  | (.string bytes, d) => bytes.length + uptoBulk d + 1
  | (_, d) => uptoBulk d + 1
 end
def uptoSmall : (H : Type) → List (DataW H) → Bool := fun _ ds => decide (uptoBulkAll ds ≤ 1048576)
def OpenSpec.upto (s : _root_.Go.ChangeSpec) : _root_.Go.OpenSpec := { _root_.Go.OpenSpec.ofChange s with cond := some uptoSmall }

/-- 'towlinelaw4.HmacKeys', WHERE WHAT IT READS IS OF BULK AT MOST 1048576: true; the input reads as it did. -/
def hmacKeysUptoRow : OpenClaim := { program := "ythccddhccpkcaaa", sum := "50e19f1cc268312168167175a5861f832dc2153e11d08e1ef23553e205ad69ba", func := "towline/towlinelaw4.HmacKeys", spec := "hmacKeys", inPlace := ["internal/abi.NoEscape", "internal/bytealg.MakeNoZero"], unfollowed := true, recurses := true, apart := false, narrowed := true }
def HmacKeysUptoSaid : Prop := hmacKeysUptoRow.holds Try.pinned (OpenSpec.upto hmacKeysSpec)

/-- 'towlinelaw4.HmacByTwo', WHERE WHAT IT READS IS OF BULK AT MOST 1048576: true; the input reads as it did. -/
def hmacByTwoUptoRow : OpenClaim := { program := "ythccddhccpkcaaa", sum := "50e19f1cc268312168167175a5861f832dc2153e11d08e1ef23553e205ad69ba", func := "towline/towlinelaw4.HmacByTwo", spec := "hmacByTwo", inPlace := ["internal/abi.NoEscape", "internal/bytealg.MakeNoZero"], unfollowed := true, recurses := true, apart := false, narrowed := true }
def HmacByTwoUptoSaid : Prop := hmacByTwoUptoRow.holds Try.pinned (OpenSpec.upto hmacByTwoSpec)

/-- 'towlinelaw4.HmacSames', WHERE WHAT IT READS IS OF BULK AT MOST 1048576: true; the input reads as it did. -/
def hmacSamesUptoRow : OpenClaim := { program := "ythccddhccpkcaaa", sum := "50e19f1cc268312168167175a5861f832dc2153e11d08e1ef23553e205ad69ba", func := "towline/towlinelaw4.HmacSames", spec := "hmacSames", inPlace := ["internal/abi.NoEscape", "internal/bytealg.MakeNoZero"], unfollowed := true, recurses := true, apart := false, narrowed := true }
def HmacSamesUptoSaid : Prop := hmacSamesUptoRow.holds Try.pinned (OpenSpec.upto hmacSamesSpec)

/-- 'towlinelaw4.HmacSums', WHERE WHAT IT READS IS OF BULK AT MOST 1048576: true; the input reads as it did. -/
def hmacSumsUptoRow : OpenClaim := { program := "ythccddhccpkcaaa", sum := "50e19f1cc268312168167175a5861f832dc2153e11d08e1ef23553e205ad69ba", func := "towline/towlinelaw4.HmacSums", spec := "hmacSums", inPlace := ["internal/abi.NoEscape", "internal/bytealg.MakeNoZero"], unfollowed := true, recurses := true, apart := false, narrowed := true }
def HmacSumsUptoSaid : Prop := hmacSumsUptoRow.holds Try.pinned (OpenSpec.upto hmacSumsSpec)

end Rows
end Go.Proofs.Ythccddhccpkcaaa
