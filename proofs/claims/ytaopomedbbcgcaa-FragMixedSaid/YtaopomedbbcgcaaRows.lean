/-
  No cell of these rows narrows 'for every input' (looked for: loops, veiled, ifaces, maps, wideKeys, modest, calm, conditions, laid).
  DERIVED. THE GIVEN ROWS OF THIS SEAT. 6 by the template 'for every input the law returns true; each argument reads behind the call as it read before'; 0 by the template 'total and deterministic' (their statements: YtaopomedbbcgcaaTotals.lean).
  GIVEN WITH THE SEED: the statements are not yours to turn. If you find one false, say at which input.
  Laid BY PROGRAM, IN A SANDBOX (cutbox-rows.mjs): the forced cells as the released guide's own fill.sh prints them over the translation b614d9f7d4e75a25… (all of the seat's roots in one cut). By AI agents, Wed Nov 11 2026. No macro, syntax, notation, axiom, sorry.
-/
import Derived.Test.YtaopomedbbcgcaaChecked
import GoSem.Claim
import GoSem.ClaimJoined
import GoSem.ClaimMapViews
import Derived.JoinedTies
import Derived.KernelRfl
namespace Go.Proofs.Ytaopomedbbcgcaa
/- THE CELL 'sum', in the pinned program and in every row, IS THE sha256 OF THE DUMP (.gsa) THAT YtaopomedbbcgcaaProg.lean LOADS. Nothing in Lean hashes anything: it is a label: what it is worth is what the hold of that sum in a sandbox is worth. -/
noncomputable def Try.pinned : Pinned := { name := "ytaopomedbbcgcaa", sum := "b614d9f7d4e75a2554261c65918be9a3d4881df6915c28bd2bf0a6c51178fba7", checked := Try.checked }
namespace Rows
def none {H : Type} : Left H := { results := [], args := [] }

/-- 'towlinelaw15.FragCuts': WHATEVER THE INPUT: true; the input reads as it did. -/
def fragCutsSpec : ChangeSpec := { name := "fragCuts", fn := fun _ => fun
  | [d1, d2] => { results := [.lit (.bool true)], args := [d1, d2] }
  | _ => none }
def fragCutsRow : OpenClaim := { program := "ytaopomedbbcgcaa", sum := "b614d9f7d4e75a2554261c65918be9a3d4881df6915c28bd2bf0a6c51178fba7", func := "towline/towlinelaw15.FragCuts", spec := "fragCuts", inPlace := ["internal/abi.NoEscape"], unfollowed := true, recurses := true, apart := false }
def FragCutsSaid : Prop := fragCutsRow.holds Try.pinned (OpenSpec.ofChange fragCutsSpec)

/-- ITS FALSE NEIGHBOUR: 'it returns false'. Refute it at one input. -/
def fragCutsWrong : ChangeSpec := { name := "fragCuts", fn := fun _ => fun
  | [d1, d2] => { results := [.lit (.bool false)], args := [d1, d2] }
  | _ => none }
def FragCutsWrongFalsely : Prop := fragCutsRow.holds Try.pinned (OpenSpec.ofChange fragCutsWrong)

/-- 'towlinelaw15.FragMixed': WHATEVER THE INPUT: true; the input reads as it did. -/
def fragMixedSpec : ChangeSpec := { name := "fragMixed", fn := fun _ => fun
  | [d1, d2, d3, d4, d5] => { results := [.lit (.bool true)], args := [d1, d2, d3, d4, d5] }
  | _ => none }
def fragMixedRow : OpenClaim := { program := "ytaopomedbbcgcaa", sum := "b614d9f7d4e75a2554261c65918be9a3d4881df6915c28bd2bf0a6c51178fba7", func := "towline/towlinelaw15.FragMixed", spec := "fragMixed", inPlace := ["internal/abi.NoEscape"], unfollowed := true, recurses := true, apart := false }
def FragMixedSaid : Prop := fragMixedRow.holds Try.pinned (OpenSpec.ofChange fragMixedSpec)

/-- ITS FALSE NEIGHBOUR: 'it returns false'. Refute it at one input. -/
def fragMixedWrong : ChangeSpec := { name := "fragMixed", fn := fun _ => fun
  | [d1, d2, d3, d4, d5] => { results := [.lit (.bool false)], args := [d1, d2, d3, d4, d5] }
  | _ => none }
def FragMixedWrongFalsely : Prop := fragMixedRow.holds Try.pinned (OpenSpec.ofChange fragMixedWrong)

/-- 'towlinelaw15.FragBack': WHATEVER THE INPUT: true; the input reads as it did. -/
def fragBackSpec : ChangeSpec := { name := "fragBack", fn := fun _ => fun
  | [d1, d2, d3, d4, d5, d6] => { results := [.lit (.bool true)], args := [d1, d2, d3, d4, d5, d6] }
  | _ => none }
def fragBackRow : OpenClaim := { program := "ytaopomedbbcgcaa", sum := "b614d9f7d4e75a2554261c65918be9a3d4881df6915c28bd2bf0a6c51178fba7", func := "towline/towlinelaw15.FragBack", spec := "fragBack", inPlace := ["internal/abi.NoEscape"], unfollowed := true, recurses := true, apart := false }
def FragBackSaid : Prop := fragBackRow.holds Try.pinned (OpenSpec.ofChange fragBackSpec)

/-- ITS FALSE NEIGHBOUR: 'it returns false'. Refute it at one input. -/
def fragBackWrong : ChangeSpec := { name := "fragBack", fn := fun _ => fun
  | [d1, d2, d3, d4, d5, d6] => { results := [.lit (.bool false)], args := [d1, d2, d3, d4, d5, d6] }
  | _ => none }
def FragBackWrongFalsely : Prop := fragBackRow.holds Try.pinned (OpenSpec.ofChange fragBackWrong)

/-- 'towlinelaw15.FragBytes': WHATEVER THE INPUT: true; the input reads as it did. -/
def fragBytesSpec : ChangeSpec := { name := "fragBytes", fn := fun _ => fun
  | [d] => { results := [.lit (.bool true)], args := [d] }
  | _ => none }
def fragBytesRow : OpenClaim := { program := "ytaopomedbbcgcaa", sum := "b614d9f7d4e75a2554261c65918be9a3d4881df6915c28bd2bf0a6c51178fba7", func := "towline/towlinelaw15.FragBytes", spec := "fragBytes", inPlace := ["internal/abi.NoEscape"], unfollowed := true, recurses := true, apart := false }
def FragBytesSaid : Prop := fragBytesRow.holds Try.pinned (OpenSpec.ofChange fragBytesSpec)

/-- ITS FALSE NEIGHBOUR: 'it returns false'. Refute it at one input. -/
def fragBytesWrong : ChangeSpec := { name := "fragBytes", fn := fun _ => fun
  | [d] => { results := [.lit (.bool false)], args := [d] }
  | _ => none }
def FragBytesWrongFalsely : Prop := fragBytesRow.holds Try.pinned (OpenSpec.ofChange fragBytesWrong)

/-- 'towlinelaw15.FragShares': WHATEVER THE INPUT: true; the input reads as it did. -/
def fragSharesSpec : ChangeSpec := { name := "fragShares", fn := fun _ => fun
  | [d1, d2, d3] => { results := [.lit (.bool true)], args := [d1, d2, d3] }
  | _ => none }
def fragSharesRow : OpenClaim := { program := "ytaopomedbbcgcaa", sum := "b614d9f7d4e75a2554261c65918be9a3d4881df6915c28bd2bf0a6c51178fba7", func := "towline/towlinelaw15.FragShares", spec := "fragShares", inPlace := ["internal/abi.NoEscape"], unfollowed := true, recurses := true, apart := false }
def FragSharesSaid : Prop := fragSharesRow.holds Try.pinned (OpenSpec.ofChange fragSharesSpec)

/-- ITS FALSE NEIGHBOUR: 'it returns false'. Refute it at one input. -/
def fragSharesWrong : ChangeSpec := { name := "fragShares", fn := fun _ => fun
  | [d1, d2, d3] => { results := [.lit (.bool false)], args := [d1, d2, d3] }
  | _ => none }
def FragSharesWrongFalsely : Prop := fragSharesRow.holds Try.pinned (OpenSpec.ofChange fragSharesWrong)

/-- 'towlinelaw15.FragPuts': WHATEVER THE INPUT: true; the input reads as it did. -/
def fragPutsSpec : ChangeSpec := { name := "fragPuts", fn := fun _ => fun
  | [d] => { results := [.lit (.bool true)], args := [d] }
  | _ => none }
def fragPutsRow : OpenClaim := { program := "ytaopomedbbcgcaa", sum := "b614d9f7d4e75a2554261c65918be9a3d4881df6915c28bd2bf0a6c51178fba7", func := "towline/towlinelaw15.FragPuts", spec := "fragPuts", inPlace := ["internal/abi.NoEscape"], unfollowed := true, recurses := true, apart := false }
def FragPutsSaid : Prop := fragPutsRow.holds Try.pinned (OpenSpec.ofChange fragPutsSpec)

/-- ITS FALSE NEIGHBOUR: 'it returns false'. Refute it at one input. -/
def fragPutsWrong : ChangeSpec := { name := "fragPuts", fn := fun _ => fun
  | [d] => { results := [.lit (.bool false)], args := [d] }
  | _ => none }
def FragPutsWrongFalsely : Prop := fragPutsRow.holds Try.pinned (OpenSpec.ofChange fragPutsWrong)

/- THE SECOND FORM. 'bulk': how many values and letters a reading holds, each counted each time it is reached (what is shared counts as often as it is met; a slice's spare places count too). A statement '..UptoSaid' is the law's where the arguments, and the package variables that the reading takes, are together of bulk at most 1048576: NARROWER than '..Said'. Prove '..Said' where nothing that the law and all that it calls make is longer than what came in: it says more and counts as full. Else prove '..UptoSaid'. A law counts once. -/
mutual
def uptoBulk {H : Type} : DataW H → Nat
  | .lit (.string bytes) => bytes.length + 1
  | .lit _ => 1
  | .nil => 1
  | .ptr d => uptoBulk d + 1
  | .slice elems spare => uptoBulkAll elems + uptoBulkAll spare + 1
  | .agg parts => uptoBulkAll parts + 1
  | .iface _ d => uptoBulk d + 1
  | .map entries => uptoBulkEntries entries + 1
  | .held _ => 1
def uptoBulkAll {H : Type} : List (DataW H) → Nat
  | [] => 0
  | d :: r => uptoBulk d + uptoBulkAll r
def uptoBulkEntries {H : Type} : List (Lit × DataW H) → Nat
  | [] => 0
  | x :: r => uptoBulkEntry x + uptoBulkEntries r
def uptoBulkEntry {H : Type} : Lit × DataW H → Nat
  | (.string bytes, d) => bytes.length + uptoBulk d + 1
  | (_, d) => uptoBulk d + 1
 end
def uptoSmall : (H : Type) → List (DataW H) → Bool := fun _ ds => decide (uptoBulkAll ds ≤ 1048576)
def OpenSpec.upto (s : _root_.Go.ChangeSpec) : _root_.Go.OpenSpec := { _root_.Go.OpenSpec.ofChange s with cond := some uptoSmall }

/-- 'towlinelaw15.FragCuts', WHERE WHAT IT READS IS OF BULK AT MOST 1048576: true; the input reads as it did. -/
def fragCutsUptoRow : OpenClaim := { program := "ytaopomedbbcgcaa", sum := "b614d9f7d4e75a2554261c65918be9a3d4881df6915c28bd2bf0a6c51178fba7", func := "towline/towlinelaw15.FragCuts", spec := "fragCuts", inPlace := ["internal/abi.NoEscape"], unfollowed := true, recurses := true, apart := false, narrowed := true }
def FragCutsUptoSaid : Prop := fragCutsUptoRow.holds Try.pinned (OpenSpec.upto fragCutsSpec)

/-- 'towlinelaw15.FragMixed', WHERE WHAT IT READS IS OF BULK AT MOST 1048576: true; the input reads as it did. -/
def fragMixedUptoRow : OpenClaim := { program := "ytaopomedbbcgcaa", sum := "b614d9f7d4e75a2554261c65918be9a3d4881df6915c28bd2bf0a6c51178fba7", func := "towline/towlinelaw15.FragMixed", spec := "fragMixed", inPlace := ["internal/abi.NoEscape"], unfollowed := true, recurses := true, apart := false, narrowed := true }
def FragMixedUptoSaid : Prop := fragMixedUptoRow.holds Try.pinned (OpenSpec.upto fragMixedSpec)

/-- 'towlinelaw15.FragBack', WHERE WHAT IT READS IS OF BULK AT MOST 1048576: true; the input reads as it did. -/
def fragBackUptoRow : OpenClaim := { program := "ytaopomedbbcgcaa", sum := "b614d9f7d4e75a2554261c65918be9a3d4881df6915c28bd2bf0a6c51178fba7", func := "towline/towlinelaw15.FragBack", spec := "fragBack", inPlace := ["internal/abi.NoEscape"], unfollowed := true, recurses := true, apart := false, narrowed := true }
def FragBackUptoSaid : Prop := fragBackUptoRow.holds Try.pinned (OpenSpec.upto fragBackSpec)

/-- 'towlinelaw15.FragBytes', WHERE WHAT IT READS IS OF BULK AT MOST 1048576: true; the input reads as it did. -/
def fragBytesUptoRow : OpenClaim := { program := "ytaopomedbbcgcaa", sum := "b614d9f7d4e75a2554261c65918be9a3d4881df6915c28bd2bf0a6c51178fba7", func := "towline/towlinelaw15.FragBytes", spec := "fragBytes", inPlace := ["internal/abi.NoEscape"], unfollowed := true, recurses := true, apart := false, narrowed := true }
def FragBytesUptoSaid : Prop := fragBytesUptoRow.holds Try.pinned (OpenSpec.upto fragBytesSpec)

/-- 'towlinelaw15.FragShares', WHERE WHAT IT READS IS OF BULK AT MOST 1048576: true; the input reads as it did. -/
def fragSharesUptoRow : OpenClaim := { program := "ytaopomedbbcgcaa", sum := "b614d9f7d4e75a2554261c65918be9a3d4881df6915c28bd2bf0a6c51178fba7", func := "towline/towlinelaw15.FragShares", spec := "fragShares", inPlace := ["internal/abi.NoEscape"], unfollowed := true, recurses := true, apart := false, narrowed := true }
def FragSharesUptoSaid : Prop := fragSharesUptoRow.holds Try.pinned (OpenSpec.upto fragSharesSpec)

/-- 'towlinelaw15.FragPuts', WHERE WHAT IT READS IS OF BULK AT MOST 1048576: true; the input reads as it did. -/
def fragPutsUptoRow : OpenClaim := { program := "ytaopomedbbcgcaa", sum := "b614d9f7d4e75a2554261c65918be9a3d4881df6915c28bd2bf0a6c51178fba7", func := "towline/towlinelaw15.FragPuts", spec := "fragPuts", inPlace := ["internal/abi.NoEscape"], unfollowed := true, recurses := true, apart := false, narrowed := true }
def FragPutsUptoSaid : Prop := fragPutsUptoRow.holds Try.pinned (OpenSpec.upto fragPutsSpec)

end Rows
end Go.Proofs.Ytaopomedbbcgcaa
