/-
  No cell of these rows narrows 'for every input' (looked for: loops, veiled, ifaces, maps, wideKeys, modest, calm, conditions, laid).
  DERIVED. THE GIVEN ROWS OF THIS SEAT. 6 by the template 'for every input the law returns true; each argument reads behind the call as it read before'; 0 by the template 'total and deterministic' (their statements: YtheilikelcgdmaaTotals.lean).
  GIVEN WITH THE SEED: the statements are not yours to turn. If you find one false, say at which input.
  Laid BY PROGRAM, IN A SANDBOX (cutbox-rows.mjs): the forced cells as the released guide's own fill.sh prints them over the translation 162c1c1f3af7c34e… (all of the seat's roots in one cut). By AI agents, Wed Nov 11 2026. No macro, syntax, notation, axiom, sorry.
-/
import Derived.Test.YtheilikelcgdmaaChecked
import GoSem.Claim
import GoSem.ClaimJoined
import GoSem.ClaimMapViews
import Derived.JoinedTies
import Derived.KernelRfl
namespace Go.Proofs.Ytheilikelcgdmaa
/- THE CELL 'sum', in the pinned program and in every row, IS THE sha256 OF THE DUMP (.gsa) THAT YtheilikelcgdmaaProg.lean LOADS. Nothing in Lean hashes anything: it is a label: what it is worth is what the hold of that sum in a sandbox is worth. -/
noncomputable def Try.pinned : Pinned := { name := "ytheilikelcgdmaa", sum := "162c1c1f3af7c34e20846e5a560488146d38771538087c12b5433eb8e219cb03", checked := Try.checked }
namespace Rows
def none {H : Type} : Left H := { results := [], args := [] }

/-- 'towlinelaw9.CookieBuilds': WHATEVER THE INPUT: true; the input reads as it did. -/
def cookieBuildsSpec : ChangeSpec := { name := "cookieBuilds", fn := fun _ => fun
  | [d1, d2, d3] => { results := [.lit (.bool true)], args := [d1, d2, d3] }
  | _ => none }
def cookieBuildsRow : OpenClaim := { program := "ytheilikelcgdmaa", sum := "162c1c1f3af7c34e20846e5a560488146d38771538087c12b5433eb8e219cb03", func := "towline/towlinelaw9.CookieBuilds", spec := "cookieBuilds", inPlace := ["internal/abi.NoEscape", "internal/bytealg.MakeNoZero"], unfollowed := true, recurses := true, apart := false }
def CookieBuildsSaid : Prop := cookieBuildsRow.holds Try.pinned (OpenSpec.ofChange cookieBuildsSpec)

/-- ITS FALSE NEIGHBOUR: 'it returns false'. Refute it at one input. -/
def cookieBuildsWrong : ChangeSpec := { name := "cookieBuilds", fn := fun _ => fun
  | [d1, d2, d3] => { results := [.lit (.bool false)], args := [d1, d2, d3] }
  | _ => none }
def CookieBuildsWrongFalsely : Prop := cookieBuildsRow.holds Try.pinned (OpenSpec.ofChange cookieBuildsWrong)

/-- 'towlinelaw9.CookieBack': WHATEVER THE INPUT: true; the input reads as it did. -/
def cookieBackSpec : ChangeSpec := { name := "cookieBack", fn := fun _ => fun
  | [d1, d2] => { results := [.lit (.bool true)], args := [d1, d2] }
  | _ => none }
def cookieBackRow : OpenClaim := { program := "ytheilikelcgdmaa", sum := "162c1c1f3af7c34e20846e5a560488146d38771538087c12b5433eb8e219cb03", func := "towline/towlinelaw9.CookieBack", spec := "cookieBack", inPlace := ["internal/abi.NoEscape", "internal/bytealg.MakeNoZero"], unfollowed := true, recurses := true, apart := false }
def CookieBackSaid : Prop := cookieBackRow.holds Try.pinned (OpenSpec.ofChange cookieBackSpec)

/-- ITS FALSE NEIGHBOUR: 'it returns false'. Refute it at one input. -/
def cookieBackWrong : ChangeSpec := { name := "cookieBack", fn := fun _ => fun
  | [d1, d2] => { results := [.lit (.bool false)], args := [d1, d2] }
  | _ => none }
def CookieBackWrongFalsely : Prop := cookieBackRow.holds Try.pinned (OpenSpec.ofChange cookieBackWrong)

/-- 'towlinelaw9.CookieParts': WHATEVER THE INPUT: true; the input reads as it did. -/
def cookiePartsSpec : ChangeSpec := { name := "cookieParts", fn := fun _ => fun
  | [d1, d2, d3] => { results := [.lit (.bool true)], args := [d1, d2, d3] }
  | _ => none }
def cookiePartsRow : OpenClaim := { program := "ytheilikelcgdmaa", sum := "162c1c1f3af7c34e20846e5a560488146d38771538087c12b5433eb8e219cb03", func := "towline/towlinelaw9.CookieParts", spec := "cookieParts", inPlace := ["internal/abi.NoEscape", "internal/bytealg.MakeNoZero"], unfollowed := true, recurses := true, apart := false }
def CookiePartsSaid : Prop := cookiePartsRow.holds Try.pinned (OpenSpec.ofChange cookiePartsSpec)

/-- ITS FALSE NEIGHBOUR: 'it returns false'. Refute it at one input. -/
def cookiePartsWrong : ChangeSpec := { name := "cookieParts", fn := fun _ => fun
  | [d1, d2, d3] => { results := [.lit (.bool false)], args := [d1, d2, d3] }
  | _ => none }
def CookiePartsWrongFalsely : Prop := cookiePartsRow.holds Try.pinned (OpenSpec.ofChange cookiePartsWrong)

/-- 'towlinelaw9.CookieTurns': WHATEVER THE INPUT: true; the input reads as it did. -/
def cookieTurnsSpec : ChangeSpec := { name := "cookieTurns", fn := fun _ => fun
  | [d] => { results := [.lit (.bool true)], args := [d] }
  | _ => none }
def cookieTurnsRow : OpenClaim := { program := "ytheilikelcgdmaa", sum := "162c1c1f3af7c34e20846e5a560488146d38771538087c12b5433eb8e219cb03", func := "towline/towlinelaw9.CookieTurns", spec := "cookieTurns", inPlace := ["internal/abi.NoEscape", "internal/bytealg.MakeNoZero"], unfollowed := true, recurses := true, apart := false }
def CookieTurnsSaid : Prop := cookieTurnsRow.holds Try.pinned (OpenSpec.ofChange cookieTurnsSpec)

/-- ITS FALSE NEIGHBOUR: 'it returns false'. Refute it at one input. -/
def cookieTurnsWrong : ChangeSpec := { name := "cookieTurns", fn := fun _ => fun
  | [d] => { results := [.lit (.bool false)], args := [d] }
  | _ => none }
def CookieTurnsWrongFalsely : Prop := cookieTurnsRow.holds Try.pinned (OpenSpec.ofChange cookieTurnsWrong)

/-- 'towlinelaw9.CookieLives': WHATEVER THE INPUT: true; the input reads as it did. -/
def cookieLivesSpec : ChangeSpec := { name := "cookieLives", fn := fun _ => fun
  | [d1, d2, d3, d4, d5, d6] => { results := [.lit (.bool true)], args := [d1, d2, d3, d4, d5, d6] }
  | _ => none }
def cookieLivesRow : OpenClaim := { program := "ytheilikelcgdmaa", sum := "162c1c1f3af7c34e20846e5a560488146d38771538087c12b5433eb8e219cb03", func := "towline/towlinelaw9.CookieLives", spec := "cookieLives", inPlace := ["internal/abi.NoEscape", "internal/bytealg.MakeNoZero"], unfollowed := true, recurses := true, apart := false }
def CookieLivesSaid : Prop := cookieLivesRow.holds Try.pinned (OpenSpec.ofChange cookieLivesSpec)

/-- ITS FALSE NEIGHBOUR: 'it returns false'. Refute it at one input. -/
def cookieLivesWrong : ChangeSpec := { name := "cookieLives", fn := fun _ => fun
  | [d1, d2, d3, d4, d5, d6] => { results := [.lit (.bool false)], args := [d1, d2, d3, d4, d5, d6] }
  | _ => none }
def CookieLivesWrongFalsely : Prop := cookieLivesRow.holds Try.pinned (OpenSpec.ofChange cookieLivesWrong)

/-- 'towlinelaw9.CookieNews': WHATEVER THE INPUT: true; the input reads as it did. -/
def cookieNewsSpec : ChangeSpec := { name := "cookieNews", fn := fun _ => fun
  | [d1, d2] => { results := [.lit (.bool true)], args := [d1, d2] }
  | _ => none }
def cookieNewsRow : OpenClaim := { program := "ytheilikelcgdmaa", sum := "162c1c1f3af7c34e20846e5a560488146d38771538087c12b5433eb8e219cb03", func := "towline/towlinelaw9.CookieNews", spec := "cookieNews", inPlace := ["internal/abi.NoEscape", "internal/bytealg.MakeNoZero"], unfollowed := true, recurses := true, apart := false }
def CookieNewsSaid : Prop := cookieNewsRow.holds Try.pinned (OpenSpec.ofChange cookieNewsSpec)

/-- ITS FALSE NEIGHBOUR: 'it returns false'. Refute it at one input. -/
def cookieNewsWrong : ChangeSpec := { name := "cookieNews", fn := fun _ => fun
  | [d1, d2] => { results := [.lit (.bool false)], args := [d1, d2] }
  | _ => none }
def CookieNewsWrongFalsely : Prop := cookieNewsRow.holds Try.pinned (OpenSpec.ofChange cookieNewsWrong)

/- THE SECOND FORM. 'bulk': how many values and letters a reading holds, each counted each time it is reached (what is shared counts as often as it is met; a slice's spare places count too). A statement '..UptoSaid' is the law's where the arguments, and the package variables that the reading takes, are together of bulk at most 1048576: NARROWER than '..Said'. Prove '..Said' where nothing that the law and all that it calls make is longer than what came in: it says more and counts as full. Else prove '..UptoSaid'. A law counts once. -/
mutual
def uptoBulk {H : Type} : DataW H → Nat
  | .lit (.string bytes) => bytes.length + 1
  | .lit _ => 1
  | .nil => 1
  | .ptr d => uptoBulk d + 1
  | .slice elems spare => uptoBulkAll elems + uptoBulkAll spare + 1
  | .agg parts => uptoBulkAll parts + 1
  | .iface _ d => uptoBulk d + 1
  | .map entries => uptoBulkEntries entries + 1
  | .held _ => 1
def uptoBulkAll {H : Type} : List (DataW H) → Nat
  | [] => 0
  | d :: r => uptoBulk d + uptoBulkAll r
def uptoBulkEntries {H : Type} : List (Lit × DataW H) → Nat
  | [] => 0
  | x :: r => uptoBulkEntry x + uptoBulkEntries r
def uptoBulkEntry {H : Type} : Lit × DataW H → Nat
  | (.string bytes, d) => bytes.length + uptoBulk d + 1
  | (_, d) => uptoBulk d + 1
 end
def uptoSmall : (H : Type) → List (DataW H) → Bool := fun _ ds => decide (uptoBulkAll ds ≤ 1048576)
def OpenSpec.upto (s : _root_.Go.ChangeSpec) : _root_.Go.OpenSpec := { _root_.Go.OpenSpec.ofChange s with cond := some uptoSmall }

/-- 'towlinelaw9.CookieBuilds', WHERE WHAT IT READS IS OF BULK AT MOST 1048576: true; the input reads as it did. -/
def cookieBuildsUptoRow : OpenClaim := { program := "ytheilikelcgdmaa", sum := "162c1c1f3af7c34e20846e5a560488146d38771538087c12b5433eb8e219cb03", func := "towline/towlinelaw9.CookieBuilds", spec := "cookieBuilds", inPlace := ["internal/abi.NoEscape", "internal/bytealg.MakeNoZero"], unfollowed := true, recurses := true, apart := false, narrowed := true }
def CookieBuildsUptoSaid : Prop := cookieBuildsUptoRow.holds Try.pinned (OpenSpec.upto cookieBuildsSpec)

/-- 'towlinelaw9.CookieBack', WHERE WHAT IT READS IS OF BULK AT MOST 1048576: true; the input reads as it did. -/
def cookieBackUptoRow : OpenClaim := { program := "ytheilikelcgdmaa", sum := "162c1c1f3af7c34e20846e5a560488146d38771538087c12b5433eb8e219cb03", func := "towline/towlinelaw9.CookieBack", spec := "cookieBack", inPlace := ["internal/abi.NoEscape", "internal/bytealg.MakeNoZero"], unfollowed := true, recurses := true, apart := false, narrowed := true }
def CookieBackUptoSaid : Prop := cookieBackUptoRow.holds Try.pinned (OpenSpec.upto cookieBackSpec)

/-- 'towlinelaw9.CookieParts', WHERE WHAT IT READS IS OF BULK AT MOST 1048576: true; the input reads as it did. -/
def cookiePartsUptoRow : OpenClaim := { program := "ytheilikelcgdmaa", sum := "162c1c1f3af7c34e20846e5a560488146d38771538087c12b5433eb8e219cb03", func := "towline/towlinelaw9.CookieParts", spec := "cookieParts", inPlace := ["internal/abi.NoEscape", "internal/bytealg.MakeNoZero"], unfollowed := true, recurses := true, apart := false, narrowed := true }
def CookiePartsUptoSaid : Prop := cookiePartsUptoRow.holds Try.pinned (OpenSpec.upto cookiePartsSpec)

/-- 'towlinelaw9.CookieTurns', WHERE WHAT IT READS IS OF BULK AT MOST 1048576: true; the input reads as it did. -/
def cookieTurnsUptoRow : OpenClaim := { program := "ytheilikelcgdmaa", sum := "162c1c1f3af7c34e20846e5a560488146d38771538087c12b5433eb8e219cb03", func := "towline/towlinelaw9.CookieTurns", spec := "cookieTurns", inPlace := ["internal/abi.NoEscape", "internal/bytealg.MakeNoZero"], unfollowed := true, recurses := true, apart := false, narrowed := true }
def CookieTurnsUptoSaid : Prop := cookieTurnsUptoRow.holds Try.pinned (OpenSpec.upto cookieTurnsSpec)

/-- 'towlinelaw9.CookieLives', WHERE WHAT IT READS IS OF BULK AT MOST 1048576: true; the input reads as it did. -/
def cookieLivesUptoRow : OpenClaim := { program := "ytheilikelcgdmaa", sum := "162c1c1f3af7c34e20846e5a560488146d38771538087c12b5433eb8e219cb03", func := "towline/towlinelaw9.CookieLives", spec := "cookieLives", inPlace := ["internal/abi.NoEscape", "internal/bytealg.MakeNoZero"], unfollowed := true, recurses := true, apart := false, narrowed := true }
def CookieLivesUptoSaid : Prop := cookieLivesUptoRow.holds Try.pinned (OpenSpec.upto cookieLivesSpec)

/-- 'towlinelaw9.CookieNews', WHERE WHAT IT READS IS OF BULK AT MOST 1048576: true; the input reads as it did. -/
def cookieNewsUptoRow : OpenClaim := { program := "ytheilikelcgdmaa", sum := "162c1c1f3af7c34e20846e5a560488146d38771538087c12b5433eb8e219cb03", func := "towline/towlinelaw9.CookieNews", spec := "cookieNews", inPlace := ["internal/abi.NoEscape", "internal/bytealg.MakeNoZero"], unfollowed := true, recurses := true, apart := false, narrowed := true }
def CookieNewsUptoSaid : Prop := cookieNewsUptoRow.holds Try.pinned (OpenSpec.upto cookieNewsSpec)

end Rows
end Go.Proofs.Ytheilikelcgdmaa
