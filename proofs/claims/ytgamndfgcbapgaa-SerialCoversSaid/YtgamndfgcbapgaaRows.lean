/-
  No cell of these rows narrows 'for every input' (looked for: loops, veiled, ifaces, maps, wideKeys, modest, calm, conditions, laid).
  DERIVED. THE GIVEN ROWS OF THIS SEAT. 8 by the template 'for every input the law returns true; each argument reads behind the call as it read before'; 0 by the template 'total and deterministic' (their statements: YtgamndfgcbapgaaTotals.lean).
  GIVEN WITH THE SEED: the statements are not yours to turn. If you find one false, say at which input.
  Laid BY PROGRAM, IN A SANDBOX (cutbox-rows.mjs): the forced cells as the released guide's own fill.sh prints them over the translation 256e6803e719ffbc… (all of the seat's roots in one cut). By AI agents, Wed Nov 11 2026. No macro, syntax, notation, axiom, sorry.
-/
import Derived.Test.YtgamndfgcbapgaaChecked
import GoSem.Claim
import GoSem.ClaimJoined
import GoSem.ClaimMapViews
import Derived.JoinedTies
import Derived.KernelRfl
namespace Go.Proofs.Ytgamndfgcbapgaa
/- THE CELL 'sum', in the pinned program and in every row, IS THE sha256 OF THE DUMP (.gsa) THAT YtgamndfgcbapgaaProg.lean LOADS. Nothing in Lean hashes anything: it is a label: what it is worth is what the hold of that sum in a sandbox is worth. -/
noncomputable def Try.pinned : Pinned := { name := "ytgamndfgcbapgaa", sum := "256e6803e719ffbc12cb2ac0e0b0f2f60d916fd230699c87fc2b868fca08f5e8", checked := Try.checked }
namespace Rows
def none {H : Type} : Left H := { results := [], args := [] }

/-- 'towlinelaw1.SerialSorts': WHATEVER THE INPUT: true; the input reads as it did. -/
def serialSortsSpec : ChangeSpec := { name := "serialSorts", fn := fun _ => fun
  | [d1, d2] => { results := [.lit (.bool true)], args := [d1, d2] }
  | _ => none }
def serialSortsRow : OpenClaim := { program := "ytgamndfgcbapgaa", sum := "256e6803e719ffbc12cb2ac0e0b0f2f60d916fd230699c87fc2b868fca08f5e8", func := "towline/towlinelaw1.SerialSorts", spec := "serialSorts", unfollowed := true, recurses := true, apart := false }
def SerialSortsSaid : Prop := serialSortsRow.holds Try.pinned (OpenSpec.ofChange serialSortsSpec)

/-- ITS FALSE NEIGHBOUR: 'it returns false'. Refute it at one input. -/
def serialSortsWrong : ChangeSpec := { name := "serialSorts", fn := fun _ => fun
  | [d1, d2] => { results := [.lit (.bool false)], args := [d1, d2] }
  | _ => none }
def SerialSortsWrongFalsely : Prop := serialSortsRow.holds Try.pinned (OpenSpec.ofChange serialSortsWrong)

/-- 'towlinelaw1.SerialRows': WHATEVER THE INPUT: true; the input reads as it did. -/
def serialRowsSpec : ChangeSpec := { name := "serialRows", fn := fun _ => fun
  | [d1, d2, d3, d4] => { results := [.lit (.bool true)], args := [d1, d2, d3, d4] }
  | _ => none }
def serialRowsRow : OpenClaim := { program := "ytgamndfgcbapgaa", sum := "256e6803e719ffbc12cb2ac0e0b0f2f60d916fd230699c87fc2b868fca08f5e8", func := "towline/towlinelaw1.SerialRows", spec := "serialRows", unfollowed := true, recurses := true, apart := false }
def SerialRowsSaid : Prop := serialRowsRow.holds Try.pinned (OpenSpec.ofChange serialRowsSpec)

/-- ITS FALSE NEIGHBOUR: 'it returns false'. Refute it at one input. -/
def serialRowsWrong : ChangeSpec := { name := "serialRows", fn := fun _ => fun
  | [d1, d2, d3, d4] => { results := [.lit (.bool false)], args := [d1, d2, d3, d4] }
  | _ => none }
def SerialRowsWrongFalsely : Prop := serialRowsRow.holds Try.pinned (OpenSpec.ofChange serialRowsWrong)

/-- 'towlinelaw1.SerialMoves': WHATEVER THE INPUT: true; the input reads as it did. -/
def serialMovesSpec : ChangeSpec := { name := "serialMoves", fn := fun _ => fun
  | [d1, d2, d3, d4, d5] => { results := [.lit (.bool true)], args := [d1, d2, d3, d4, d5] }
  | _ => none }
def serialMovesRow : OpenClaim := { program := "ytgamndfgcbapgaa", sum := "256e6803e719ffbc12cb2ac0e0b0f2f60d916fd230699c87fc2b868fca08f5e8", func := "towline/towlinelaw1.SerialMoves", spec := "serialMoves", unfollowed := true, recurses := true, apart := false }
def SerialMovesSaid : Prop := serialMovesRow.holds Try.pinned (OpenSpec.ofChange serialMovesSpec)

/-- ITS FALSE NEIGHBOUR: 'it returns false'. Refute it at one input. -/
def serialMovesWrong : ChangeSpec := { name := "serialMoves", fn := fun _ => fun
  | [d1, d2, d3, d4, d5] => { results := [.lit (.bool false)], args := [d1, d2, d3, d4, d5] }
  | _ => none }
def SerialMovesWrongFalsely : Prop := serialMovesRow.holds Try.pinned (OpenSpec.ofChange serialMovesWrong)

/-- 'towlinelaw1.SerialCovers': WHATEVER THE INPUT: true; the input reads as it did. -/
def serialCoversSpec : ChangeSpec := { name := "serialCovers", fn := fun _ => fun
  | [d1, d2] => { results := [.lit (.bool true)], args := [d1, d2] }
  | _ => none }
def serialCoversRow : OpenClaim := { program := "ytgamndfgcbapgaa", sum := "256e6803e719ffbc12cb2ac0e0b0f2f60d916fd230699c87fc2b868fca08f5e8", func := "towline/towlinelaw1.SerialCovers", spec := "serialCovers", unfollowed := true, recurses := true, apart := false }
def SerialCoversSaid : Prop := serialCoversRow.holds Try.pinned (OpenSpec.ofChange serialCoversSpec)

/-- ITS FALSE NEIGHBOUR: 'it returns false'. Refute it at one input. -/
def serialCoversWrong : ChangeSpec := { name := "serialCovers", fn := fun _ => fun
  | [d1, d2] => { results := [.lit (.bool false)], args := [d1, d2] }
  | _ => none }
def SerialCoversWrongFalsely : Prop := serialCoversRow.holds Try.pinned (OpenSpec.ofChange serialCoversWrong)

/-- 'towlinelaw1.SerialNarrow': WHATEVER THE INPUT: true; the input reads as it did. -/
def serialNarrowSpec : ChangeSpec := { name := "serialNarrow", fn := fun _ => fun
  | [d1, d2, d3] => { results := [.lit (.bool true)], args := [d1, d2, d3] }
  | _ => none }
def serialNarrowRow : OpenClaim := { program := "ytgamndfgcbapgaa", sum := "256e6803e719ffbc12cb2ac0e0b0f2f60d916fd230699c87fc2b868fca08f5e8", func := "towline/towlinelaw1.SerialNarrow", spec := "serialNarrow", unfollowed := true, recurses := true, apart := false }
def SerialNarrowSaid : Prop := serialNarrowRow.holds Try.pinned (OpenSpec.ofChange serialNarrowSpec)

/-- ITS FALSE NEIGHBOUR: 'it returns false'. Refute it at one input. -/
def serialNarrowWrong : ChangeSpec := { name := "serialNarrow", fn := fun _ => fun
  | [d1, d2, d3] => { results := [.lit (.bool false)], args := [d1, d2, d3] }
  | _ => none }
def SerialNarrowWrongFalsely : Prop := serialNarrowRow.holds Try.pinned (OpenSpec.ofChange serialNarrowWrong)

/-- 'towlinelaw1.SerialStands': WHATEVER THE INPUT: true; the input reads as it did. -/
def serialStandsSpec : ChangeSpec := { name := "serialStands", fn := fun _ => fun
  | [d1, d2, d3, d4] => { results := [.lit (.bool true)], args := [d1, d2, d3, d4] }
  | _ => none }
def serialStandsRow : OpenClaim := { program := "ytgamndfgcbapgaa", sum := "256e6803e719ffbc12cb2ac0e0b0f2f60d916fd230699c87fc2b868fca08f5e8", func := "towline/towlinelaw1.SerialStands", spec := "serialStands", unfollowed := true, recurses := true, apart := false }
def SerialStandsSaid : Prop := serialStandsRow.holds Try.pinned (OpenSpec.ofChange serialStandsSpec)

/-- ITS FALSE NEIGHBOUR: 'it returns false'. Refute it at one input. -/
def serialStandsWrong : ChangeSpec := { name := "serialStands", fn := fun _ => fun
  | [d1, d2, d3, d4] => { results := [.lit (.bool false)], args := [d1, d2, d3, d4] }
  | _ => none }
def SerialStandsWrongFalsely : Prop := serialStandsRow.holds Try.pinned (OpenSpec.ofChange serialStandsWrong)

/-- 'towlinelaw1.SerialTurns': WHATEVER THE INPUT: true; the input reads as it did. -/
def serialTurnsSpec : ChangeSpec := { name := "serialTurns", fn := fun _ => fun
  | [d1, d2, d3, d4] => { results := [.lit (.bool true)], args := [d1, d2, d3, d4] }
  | _ => none }
def serialTurnsRow : OpenClaim := { program := "ytgamndfgcbapgaa", sum := "256e6803e719ffbc12cb2ac0e0b0f2f60d916fd230699c87fc2b868fca08f5e8", func := "towline/towlinelaw1.SerialTurns", spec := "serialTurns", unfollowed := true, recurses := true, apart := false }
def SerialTurnsSaid : Prop := serialTurnsRow.holds Try.pinned (OpenSpec.ofChange serialTurnsSpec)

/-- ITS FALSE NEIGHBOUR: 'it returns false'. Refute it at one input. -/
def serialTurnsWrong : ChangeSpec := { name := "serialTurns", fn := fun _ => fun
  | [d1, d2, d3, d4] => { results := [.lit (.bool false)], args := [d1, d2, d3, d4] }
  | _ => none }
def SerialTurnsWrongFalsely : Prop := serialTurnsRow.holds Try.pinned (OpenSpec.ofChange serialTurnsWrong)

/-- 'towlinelaw1.SerialChains': WHATEVER THE INPUT: true; the input reads as it did. -/
def serialChainsSpec : ChangeSpec := { name := "serialChains", fn := fun _ => fun
  | [d1, d2, d3] => { results := [.lit (.bool true)], args := [d1, d2, d3] }
  | _ => none }
def serialChainsRow : OpenClaim := { program := "ytgamndfgcbapgaa", sum := "256e6803e719ffbc12cb2ac0e0b0f2f60d916fd230699c87fc2b868fca08f5e8", func := "towline/towlinelaw1.SerialChains", spec := "serialChains", unfollowed := true, recurses := true, apart := false }
def SerialChainsSaid : Prop := serialChainsRow.holds Try.pinned (OpenSpec.ofChange serialChainsSpec)

/-- ITS FALSE NEIGHBOUR: 'it returns false'. Refute it at one input. -/
def serialChainsWrong : ChangeSpec := { name := "serialChains", fn := fun _ => fun
  | [d1, d2, d3] => { results := [.lit (.bool false)], args := [d1, d2, d3] }
  | _ => none }
def SerialChainsWrongFalsely : Prop := serialChainsRow.holds Try.pinned (OpenSpec.ofChange serialChainsWrong)

/- THE SECOND FORM. 'bulk': how many values and letters a reading holds, each counted each time it is reached (what is shared counts as often as it is met; a slice's spare places count too). A statement '..UptoSaid' is the law's where the arguments, and the package variables that the reading takes, are together of bulk at most 1048576: NARROWER than '..Said'. Prove '..Said' where nothing that the law and all that it calls make is longer than what came in: it says more and counts as full. Else prove '..UptoSaid'. A law counts once. -/
mutual
def uptoBulk {H : Type} : DataW H → Nat
  | .lit (.string bytes) => bytes.length + 1
  | .lit _ => 1
  | .nil => 1
  | .ptr d => uptoBulk d + 1
  | .slice elems spare => uptoBulkAll elems + uptoBulkAll spare + 1
  | .agg parts => uptoBulkAll parts + 1
  | .iface _ d => uptoBulk d + 1
  | .map entries => uptoBulkEntries entries + 1
  | .held _ => 1
def uptoBulkAll {H : Type} : List (DataW H) → Nat
  | [] => 0
  | d :: r => uptoBulk d + uptoBulkAll r
def uptoBulkEntries {H : Type} : List (Lit × DataW H) → Nat
  | [] => 0
  | x :: r => uptoBulkEntry x + uptoBulkEntries r
def uptoBulkEntry {H : Type} : Lit × DataW H → Nat
  | (.string bytes, d) => bytes.length + uptoBulk d + 1
  | (_, d) => uptoBulk d + 1
 end
def uptoSmall : (H : Type) → List (DataW H) → Bool := fun _ ds => decide (uptoBulkAll ds ≤ 1048576)
def OpenSpec.upto (s : _root_.Go.ChangeSpec) : _root_.Go.OpenSpec := { _root_.Go.OpenSpec.ofChange s with cond := some uptoSmall }

/-- 'towlinelaw1.SerialSorts', WHERE WHAT IT READS IS OF BULK AT MOST 1048576: true; the input reads as it did. -/
def serialSortsUptoRow : OpenClaim := { program := "ytgamndfgcbapgaa", sum := "256e6803e719ffbc12cb2ac0e0b0f2f60d916fd230699c87fc2b868fca08f5e8", func := "towline/towlinelaw1.SerialSorts", spec := "serialSorts", unfollowed := true, recurses := true, apart := false, narrowed := true }
def SerialSortsUptoSaid : Prop := serialSortsUptoRow.holds Try.pinned (OpenSpec.upto serialSortsSpec)

/-- 'towlinelaw1.SerialRows', WHERE WHAT IT READS IS OF BULK AT MOST 1048576: true; the input reads as it did. -/
def serialRowsUptoRow : OpenClaim := { program := "ytgamndfgcbapgaa", sum := "256e6803e719ffbc12cb2ac0e0b0f2f60d916fd230699c87fc2b868fca08f5e8", func := "towline/towlinelaw1.SerialRows", spec := "serialRows", unfollowed := true, recurses := true, apart := false, narrowed := true }
def SerialRowsUptoSaid : Prop := serialRowsUptoRow.holds Try.pinned (OpenSpec.upto serialRowsSpec)

/-- 'towlinelaw1.SerialMoves', WHERE WHAT IT READS IS OF BULK AT MOST 1048576: true; the input reads as it did. -/
def serialMovesUptoRow : OpenClaim := { program := "ytgamndfgcbapgaa", sum := "256e6803e719ffbc12cb2ac0e0b0f2f60d916fd230699c87fc2b868fca08f5e8", func := "towline/towlinelaw1.SerialMoves", spec := "serialMoves", unfollowed := true, recurses := true, apart := false, narrowed := true }
def SerialMovesUptoSaid : Prop := serialMovesUptoRow.holds Try.pinned (OpenSpec.upto serialMovesSpec)

/-- 'towlinelaw1.SerialCovers', WHERE WHAT IT READS IS OF BULK AT MOST 1048576: true; the input reads as it did. -/
def serialCoversUptoRow : OpenClaim := { program := "ytgamndfgcbapgaa", sum := "256e6803e719ffbc12cb2ac0e0b0f2f60d916fd230699c87fc2b868fca08f5e8", func := "towline/towlinelaw1.SerialCovers", spec := "serialCovers", unfollowed := true, recurses := true, apart := false, narrowed := true }
def SerialCoversUptoSaid : Prop := serialCoversUptoRow.holds Try.pinned (OpenSpec.upto serialCoversSpec)

/-- 'towlinelaw1.SerialNarrow', WHERE WHAT IT READS IS OF BULK AT MOST 1048576: true; the input reads as it did. -/
def serialNarrowUptoRow : OpenClaim := { program := "ytgamndfgcbapgaa", sum := "256e6803e719ffbc12cb2ac0e0b0f2f60d916fd230699c87fc2b868fca08f5e8", func := "towline/towlinelaw1.SerialNarrow", spec := "serialNarrow", unfollowed := true, recurses := true, apart := false, narrowed := true }
def SerialNarrowUptoSaid : Prop := serialNarrowUptoRow.holds Try.pinned (OpenSpec.upto serialNarrowSpec)

/-- 'towlinelaw1.SerialStands', WHERE WHAT IT READS IS OF BULK AT MOST 1048576: true; the input reads as it did. -/
def serialStandsUptoRow : OpenClaim := { program := "ytgamndfgcbapgaa", sum := "256e6803e719ffbc12cb2ac0e0b0f2f60d916fd230699c87fc2b868fca08f5e8", func := "towline/towlinelaw1.SerialStands", spec := "serialStands", unfollowed := true, recurses := true, apart := false, narrowed := true }
def SerialStandsUptoSaid : Prop := serialStandsUptoRow.holds Try.pinned (OpenSpec.upto serialStandsSpec)

/-- 'towlinelaw1.SerialTurns', WHERE WHAT IT READS IS OF BULK AT MOST 1048576: true; the input reads as it did. -/
def serialTurnsUptoRow : OpenClaim := { program := "ytgamndfgcbapgaa", sum := "256e6803e719ffbc12cb2ac0e0b0f2f60d916fd230699c87fc2b868fca08f5e8", func := "towline/towlinelaw1.SerialTurns", spec := "serialTurns", unfollowed := true, recurses := true, apart := false, narrowed := true }
def SerialTurnsUptoSaid : Prop := serialTurnsUptoRow.holds Try.pinned (OpenSpec.upto serialTurnsSpec)

/-- 'towlinelaw1.SerialChains', WHERE WHAT IT READS IS OF BULK AT MOST 1048576: true; the input reads as it did. -/
def serialChainsUptoRow : OpenClaim := { program := "ytgamndfgcbapgaa", sum := "256e6803e719ffbc12cb2ac0e0b0f2f60d916fd230699c87fc2b868fca08f5e8", func := "towline/towlinelaw1.SerialChains", spec := "serialChains", unfollowed := true, recurses := true, apart := false, narrowed := true }
def SerialChainsUptoSaid : Prop := serialChainsUptoRow.holds Try.pinned (OpenSpec.upto serialChainsSpec)

end Rows
end Go.Proofs.Ytgamndfgcbapgaa
