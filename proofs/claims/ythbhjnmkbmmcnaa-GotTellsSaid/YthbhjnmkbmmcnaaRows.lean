/-
  No cell of these rows narrows 'for every input' (looked for: loops, veiled, ifaces, maps, wideKeys, modest, calm, conditions, laid).
  DERIVED. THE GIVEN ROWS OF THIS SEAT. 7 by the template 'for every input the law returns true; each argument reads behind the call as it read before'; 0 by the template 'total and deterministic' (their statements: YthbhjnmkbmmcnaaTotals.lean).
  GIVEN WITH THE SEED: the statements are not yours to turn. If you find one false, say at which input.
  Laid BY PROGRAM, IN A SANDBOX (cutbox-rows.mjs): the forced cells as the released guide's own fill.sh prints them over the translation 06f4cd7883f992d2… (all of the seat's roots in one cut). By AI agents, Wed Nov 11 2026. No macro, syntax, notation, axiom, sorry.
-/
import Derived.Test.YthbhjnmkbmmcnaaChecked
import GoSem.Claim
import GoSem.ClaimJoined
import GoSem.ClaimMapViews
import Derived.JoinedTies
import Derived.KernelRfl
namespace Go.Proofs.Ythbhjnmkbmmcnaa
/- THE CELL 'sum', in the pinned program and in every row, IS THE sha256 OF THE DUMP (.gsa) THAT YthbhjnmkbmmcnaaProg.lean LOADS. Nothing in Lean hashes anything: it is a label: what it is worth is what the hold of that sum in a sandbox is worth. -/
noncomputable def Try.pinned : Pinned := { name := "ythbhjnmkbmmcnaa", sum := "06f4cd7883f992d22849390c4e10e437a0e4c930dcd821da437b54542c31abc9", checked := Try.checked }
namespace Rows
def none {H : Type} : Left H := { results := [], args := [] }

/-- 'towlinelaw13.GotTakes': WHATEVER THE INPUT: true; the input reads as it did. -/
def gotTakesSpec : ChangeSpec := { name := "gotTakes", fn := fun _ => fun
  | [d1, d2] => { results := [.lit (.bool true)], args := [d1, d2] }
  | _ => none }
def gotTakesRow : OpenClaim := { program := "ythbhjnmkbmmcnaa", sum := "06f4cd7883f992d22849390c4e10e437a0e4c930dcd821da437b54542c31abc9", func := "towline/towlinelaw13.GotTakes", spec := "gotTakes", inPlace := ["slices.overlaps[uint32]"], unfollowed := true, recurses := true, apart := false }
def GotTakesSaid : Prop := gotTakesRow.holds Try.pinned (OpenSpec.ofChange gotTakesSpec)

/-- ITS FALSE NEIGHBOUR: 'it returns false'. Refute it at one input. -/
def gotTakesWrong : ChangeSpec := { name := "gotTakes", fn := fun _ => fun
  | [d1, d2] => { results := [.lit (.bool false)], args := [d1, d2] }
  | _ => none }
def GotTakesWrongFalsely : Prop := gotTakesRow.holds Try.pinned (OpenSpec.ofChange gotTakesWrong)

/-- 'towlinelaw13.GotPlays': WHATEVER THE INPUT: true; the input reads as it did. -/
def gotPlaysSpec : ChangeSpec := { name := "gotPlays", fn := fun _ => fun
  | [d1, d2] => { results := [.lit (.bool true)], args := [d1, d2] }
  | _ => none }
def gotPlaysRow : OpenClaim := { program := "ythbhjnmkbmmcnaa", sum := "06f4cd7883f992d22849390c4e10e437a0e4c930dcd821da437b54542c31abc9", func := "towline/towlinelaw13.GotPlays", spec := "gotPlays", inPlace := ["slices.overlaps[uint32]"], unfollowed := true, recurses := true, apart := false }
def GotPlaysSaid : Prop := gotPlaysRow.holds Try.pinned (OpenSpec.ofChange gotPlaysSpec)

/-- ITS FALSE NEIGHBOUR: 'it returns false'. Refute it at one input. -/
def gotPlaysWrong : ChangeSpec := { name := "gotPlays", fn := fun _ => fun
  | [d1, d2] => { results := [.lit (.bool false)], args := [d1, d2] }
  | _ => none }
def GotPlaysWrongFalsely : Prop := gotPlaysRow.holds Try.pinned (OpenSpec.ofChange gotPlaysWrong)

/-- 'towlinelaw13.GotOrders': WHATEVER THE INPUT: true; the input reads as it did. -/
def gotOrdersSpec : ChangeSpec := { name := "gotOrders", fn := fun _ => fun
  | [d1, d2, d3] => { results := [.lit (.bool true)], args := [d1, d2, d3] }
  | _ => none }
def gotOrdersRow : OpenClaim := { program := "ythbhjnmkbmmcnaa", sum := "06f4cd7883f992d22849390c4e10e437a0e4c930dcd821da437b54542c31abc9", func := "towline/towlinelaw13.GotOrders", spec := "gotOrders", inPlace := ["slices.overlaps[uint32]"], unfollowed := true, recurses := true, apart := false }
def GotOrdersSaid : Prop := gotOrdersRow.holds Try.pinned (OpenSpec.ofChange gotOrdersSpec)

/-- ITS FALSE NEIGHBOUR: 'it returns false'. Refute it at one input. -/
def gotOrdersWrong : ChangeSpec := { name := "gotOrders", fn := fun _ => fun
  | [d1, d2, d3] => { results := [.lit (.bool false)], args := [d1, d2, d3] }
  | _ => none }
def GotOrdersWrongFalsely : Prop := gotOrdersRow.holds Try.pinned (OpenSpec.ofChange gotOrdersWrong)

/-- 'towlinelaw13.GotDups': WHATEVER THE INPUT: true; the input reads as it did. -/
def gotDupsSpec : ChangeSpec := { name := "gotDups", fn := fun _ => fun
  | [d1, d2, d3] => { results := [.lit (.bool true)], args := [d1, d2, d3] }
  | _ => none }
def gotDupsRow : OpenClaim := { program := "ythbhjnmkbmmcnaa", sum := "06f4cd7883f992d22849390c4e10e437a0e4c930dcd821da437b54542c31abc9", func := "towline/towlinelaw13.GotDups", spec := "gotDups", inPlace := ["slices.overlaps[uint32]"], unfollowed := true, recurses := true, apart := false }
def GotDupsSaid : Prop := gotDupsRow.holds Try.pinned (OpenSpec.ofChange gotDupsSpec)

/-- ITS FALSE NEIGHBOUR: 'it returns false'. Refute it at one input. -/
def gotDupsWrong : ChangeSpec := { name := "gotDups", fn := fun _ => fun
  | [d1, d2, d3] => { results := [.lit (.bool false)], args := [d1, d2, d3] }
  | _ => none }
def GotDupsWrongFalsely : Prop := gotDupsRow.holds Try.pinned (OpenSpec.ofChange gotDupsWrong)

/-- 'towlinelaw13.GotMisses': WHATEVER THE INPUT: true; the input reads as it did. -/
def gotMissesSpec : ChangeSpec := { name := "gotMisses", fn := fun _ => fun
  | [d] => { results := [.lit (.bool true)], args := [d] }
  | _ => none }
def gotMissesRow : OpenClaim := { program := "ythbhjnmkbmmcnaa", sum := "06f4cd7883f992d22849390c4e10e437a0e4c930dcd821da437b54542c31abc9", func := "towline/towlinelaw13.GotMisses", spec := "gotMisses", inPlace := ["slices.overlaps[uint32]"], unfollowed := true, recurses := true, apart := false }
def GotMissesSaid : Prop := gotMissesRow.holds Try.pinned (OpenSpec.ofChange gotMissesSpec)

/-- ITS FALSE NEIGHBOUR: 'it returns false'. Refute it at one input. -/
def gotMissesWrong : ChangeSpec := { name := "gotMisses", fn := fun _ => fun
  | [d] => { results := [.lit (.bool false)], args := [d] }
  | _ => none }
def GotMissesWrongFalsely : Prop := gotMissesRow.holds Try.pinned (OpenSpec.ofChange gotMissesWrong)

/-- 'towlinelaw13.GotRows': WHATEVER THE INPUT: true; the input reads as it did. -/
def gotRowsSpec : ChangeSpec := { name := "gotRows", fn := fun _ => fun
  | [d1, d2, d3] => { results := [.lit (.bool true)], args := [d1, d2, d3] }
  | _ => none }
def gotRowsRow : OpenClaim := { program := "ythbhjnmkbmmcnaa", sum := "06f4cd7883f992d22849390c4e10e437a0e4c930dcd821da437b54542c31abc9", func := "towline/towlinelaw13.GotRows", spec := "gotRows", inPlace := ["slices.overlaps[uint32]"], unfollowed := true, recurses := true, apart := false }
def GotRowsSaid : Prop := gotRowsRow.holds Try.pinned (OpenSpec.ofChange gotRowsSpec)

/-- ITS FALSE NEIGHBOUR: 'it returns false'. Refute it at one input. -/
def gotRowsWrong : ChangeSpec := { name := "gotRows", fn := fun _ => fun
  | [d1, d2, d3] => { results := [.lit (.bool false)], args := [d1, d2, d3] }
  | _ => none }
def GotRowsWrongFalsely : Prop := gotRowsRow.holds Try.pinned (OpenSpec.ofChange gotRowsWrong)

/-- 'towlinelaw13.GotTells': WHATEVER THE INPUT: true; the input reads as it did. -/
def gotTellsSpec : ChangeSpec := { name := "gotTells", fn := fun _ => fun
  | [d1, d2] => { results := [.lit (.bool true)], args := [d1, d2] }
  | _ => none }
def gotTellsRow : OpenClaim := { program := "ythbhjnmkbmmcnaa", sum := "06f4cd7883f992d22849390c4e10e437a0e4c930dcd821da437b54542c31abc9", func := "towline/towlinelaw13.GotTells", spec := "gotTells", inPlace := ["slices.overlaps[uint32]", "internal/abi.NoEscape", "internal/bytealg.MakeNoZero"], unfollowed := true, recurses := true, apart := false }
def GotTellsSaid : Prop := gotTellsRow.holds Try.pinned (OpenSpec.ofChange gotTellsSpec)

/-- ITS FALSE NEIGHBOUR: 'it returns false'. Refute it at one input. -/
def gotTellsWrong : ChangeSpec := { name := "gotTells", fn := fun _ => fun
  | [d1, d2] => { results := [.lit (.bool false)], args := [d1, d2] }
  | _ => none }
def GotTellsWrongFalsely : Prop := gotTellsRow.holds Try.pinned (OpenSpec.ofChange gotTellsWrong)

/- THE SECOND FORM. 'bulk': how many values and letters a reading holds, each counted each time it is reached (what is shared counts as often as it is met; a slice's spare places count too). A statement '..UptoSaid' is the law's where the arguments, and the package variables that the reading takes, are together of bulk at most 1048576: NARROWER than '..Said'. Prove '..Said' where nothing that the law and all that it calls make is longer than what came in: it says more and counts as full. Else prove '..UptoSaid'. A law counts once. -/
mutual
def uptoBulk {H : Type} : DataW H → Nat
  | .lit (.string bytes) => bytes.length + 1
  | .lit _ => 1
  | .nil => 1
  | .ptr d => uptoBulk d + 1
  | .slice elems spare => uptoBulkAll elems + uptoBulkAll spare + 1
  | .agg parts => uptoBulkAll parts + 1
  | .iface _ d => uptoBulk d + 1
  | .map entries => uptoBulkEntries entries + 1
  | .held _ => 1
def uptoBulkAll {H : Type} : List (DataW H) → Nat
  | [] => 0
  | d :: r => uptoBulk d + uptoBulkAll r
def uptoBulkEntries {H : Type} : List (Lit × DataW H) → Nat
  | [] => 0
  | x :: r => uptoBulkEntry x + uptoBulkEntries r
def uptoBulkEntry {H : Type} : Lit × DataW H → Nat
  | (.string bytes, d) => bytes.length + uptoBulk d + 1
  | (_, d) => uptoBulk d + 1
 end
def uptoSmall : (H : Type) → List (DataW H) → Bool := fun _ ds => decide (uptoBulkAll ds ≤ 1048576)
def OpenSpec.upto (s : _root_.Go.ChangeSpec) : _root_.Go.OpenSpec := { _root_.Go.OpenSpec.ofChange s with cond := some uptoSmall }

/-- 'towlinelaw13.GotTakes', WHERE WHAT IT READS IS OF BULK AT MOST 1048576: true; the input reads as it did. -/
def gotTakesUptoRow : OpenClaim := { program := "ythbhjnmkbmmcnaa", sum := "06f4cd7883f992d22849390c4e10e437a0e4c930dcd821da437b54542c31abc9", func := "towline/towlinelaw13.GotTakes", spec := "gotTakes", inPlace := ["slices.overlaps[uint32]"], unfollowed := true, recurses := true, apart := false, narrowed := true }
def GotTakesUptoSaid : Prop := gotTakesUptoRow.holds Try.pinned (OpenSpec.upto gotTakesSpec)

/-- 'towlinelaw13.GotPlays', WHERE WHAT IT READS IS OF BULK AT MOST 1048576: true; the input reads as it did. -/
def gotPlaysUptoRow : OpenClaim := { program := "ythbhjnmkbmmcnaa", sum := "06f4cd7883f992d22849390c4e10e437a0e4c930dcd821da437b54542c31abc9", func := "towline/towlinelaw13.GotPlays", spec := "gotPlays", inPlace := ["slices.overlaps[uint32]"], unfollowed := true, recurses := true, apart := false, narrowed := true }
def GotPlaysUptoSaid : Prop := gotPlaysUptoRow.holds Try.pinned (OpenSpec.upto gotPlaysSpec)

/-- 'towlinelaw13.GotOrders', WHERE WHAT IT READS IS OF BULK AT MOST 1048576: true; the input reads as it did. -/
def gotOrdersUptoRow : OpenClaim := { program := "ythbhjnmkbmmcnaa", sum := "06f4cd7883f992d22849390c4e10e437a0e4c930dcd821da437b54542c31abc9", func := "towline/towlinelaw13.GotOrders", spec := "gotOrders", inPlace := ["slices.overlaps[uint32]"], unfollowed := true, recurses := true, apart := false, narrowed := true }
def GotOrdersUptoSaid : Prop := gotOrdersUptoRow.holds Try.pinned (OpenSpec.upto gotOrdersSpec)

/-- 'towlinelaw13.GotDups', WHERE WHAT IT READS IS OF BULK AT MOST 1048576: true; the input reads as it did. -/
def gotDupsUptoRow : OpenClaim := { program := "ythbhjnmkbmmcnaa", sum := "06f4cd7883f992d22849390c4e10e437a0e4c930dcd821da437b54542c31abc9", func := "towline/towlinelaw13.GotDups", spec := "gotDups", inPlace := ["slices.overlaps[uint32]"], unfollowed := true, recurses := true, apart := false, narrowed := true }
def GotDupsUptoSaid : Prop := gotDupsUptoRow.holds Try.pinned (OpenSpec.upto gotDupsSpec)

/-- 'towlinelaw13.GotMisses', WHERE WHAT IT READS IS OF BULK AT MOST 1048576: true; the input reads as it did. -/
def gotMissesUptoRow : OpenClaim := { program := "ythbhjnmkbmmcnaa", sum := "06f4cd7883f992d22849390c4e10e437a0e4c930dcd821da437b54542c31abc9", func := "towline/towlinelaw13.GotMisses", spec := "gotMisses", inPlace := ["slices.overlaps[uint32]"], unfollowed := true, recurses := true, apart := false, narrowed := true }
def GotMissesUptoSaid : Prop := gotMissesUptoRow.holds Try.pinned (OpenSpec.upto gotMissesSpec)

/-- 'towlinelaw13.GotRows', WHERE WHAT IT READS IS OF BULK AT MOST 1048576: true; the input reads as it did. -/
def gotRowsUptoRow : OpenClaim := { program := "ythbhjnmkbmmcnaa", sum := "06f4cd7883f992d22849390c4e10e437a0e4c930dcd821da437b54542c31abc9", func := "towline/towlinelaw13.GotRows", spec := "gotRows", inPlace := ["slices.overlaps[uint32]"], unfollowed := true, recurses := true, apart := false, narrowed := true }
def GotRowsUptoSaid : Prop := gotRowsUptoRow.holds Try.pinned (OpenSpec.upto gotRowsSpec)

/-- 'towlinelaw13.GotTells', WHERE WHAT IT READS IS OF BULK AT MOST 1048576: true; the input reads as it did. -/
def gotTellsUptoRow : OpenClaim := { program := "ythbhjnmkbmmcnaa", sum := "06f4cd7883f992d22849390c4e10e437a0e4c930dcd821da437b54542c31abc9", func := "towline/towlinelaw13.GotTells", spec := "gotTells", inPlace := ["slices.overlaps[uint32]", "internal/abi.NoEscape", "internal/bytealg.MakeNoZero"], unfollowed := true, recurses := true, apart := false, narrowed := true }
def GotTellsUptoSaid : Prop := gotTellsUptoRow.holds Try.pinned (OpenSpec.upto gotTellsSpec)

end Rows
end Go.Proofs.Ythbhjnmkbmmcnaa
