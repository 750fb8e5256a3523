/-
  No cell of these rows narrows 'for every input' (looked for: loops, veiled, ifaces, maps, wideKeys, modest, calm, conditions, laid).
  DERIVED. THE GIVEN ROWS OF THIS SEAT. 6 by the template 'for every input the law returns true; each argument reads behind the call as it read before'; 0 by the template 'total and deterministic' (their statements: YtbepeoipaiahgaaTotals.lean).
  GIVEN WITH THE SEED: the statements are not yours to turn. If you find one false, say at which input.
  Laid BY PROGRAM, IN A SANDBOX (cutbox-rows.mjs): the forced cells as the released guide's own fill.sh prints them over the translation 1059a5c1b9a91c61… (all of the seat's roots in one cut). By AI agents, Wed Nov 11 2026. No macro, syntax, notation, axiom, sorry.
-/
import Derived.Test.YtbepeoipaiahgaaChecked
import GoSem.Claim
import GoSem.ClaimJoined
import GoSem.ClaimMapViews
import Derived.JoinedTies
import Derived.KernelRfl
namespace Go.Proofs.Ytbepeoipaiahgaa
/- THE CELL 'sum', in the pinned program and in every row, IS THE sha256 OF THE DUMP (.gsa) THAT YtbepeoipaiahgaaProg.lean LOADS. Nothing in Lean hashes anything: it is a label: what it is worth is what the hold of that sum in a sandbox is worth. -/
noncomputable def Try.pinned : Pinned := { name := "ytbepeoipaiahgaa", sum := "1059a5c1b9a91c619825fa9c215e3fedac23aaf7e7d568636ee9ab4d0faef4ba", checked := Try.checked }
namespace Rows
def none {H : Type} : Left H := { results := [], args := [] }

/-- 'raddlelaw04.SyntaxGroup': WHATEVER THE INPUT: true; the input reads as it did. -/
def syntaxGroupSpec : ChangeSpec := { name := "syntaxGroup", fn := fun _ => fun
  | [d] => { results := [.lit (.bool true)], args := [d] }
  | _ => none }
def syntaxGroupRow : OpenClaim := { program := "ytbepeoipaiahgaa", sum := "1059a5c1b9a91c619825fa9c215e3fedac23aaf7e7d568636ee9ab4d0faef4ba", func := "raddle/raddlelaw04.SyntaxGroup", spec := "syntaxGroup", inPlace := ["internal/bytealg.IndexByteString"], recurses := true, apart := false }
def SyntaxGroupSaid : Prop := syntaxGroupRow.holds Try.pinned (OpenSpec.ofChange syntaxGroupSpec)

/-- ITS FALSE NEIGHBOUR: 'it returns false'. Refute it at one input. -/
def syntaxGroupWrong : ChangeSpec := { name := "syntaxGroup", fn := fun _ => fun
  | [d] => { results := [.lit (.bool false)], args := [d] }
  | _ => none }
def SyntaxGroupWrongFalsely : Prop := syntaxGroupRow.holds Try.pinned (OpenSpec.ofChange syntaxGroupWrong)

/-- 'raddlelaw04.SyntaxBounds': WHATEVER THE INPUT: true; the input reads as it did. -/
def syntaxBoundsSpec : ChangeSpec := { name := "syntaxBounds", fn := fun _ => fun
  | [d1, d2, d3] => { results := [.lit (.bool true)], args := [d1, d2, d3] }
  | _ => none }
def syntaxBoundsRow : OpenClaim := { program := "ytbepeoipaiahgaa", sum := "1059a5c1b9a91c619825fa9c215e3fedac23aaf7e7d568636ee9ab4d0faef4ba", func := "raddle/raddlelaw04.SyntaxBounds", spec := "syntaxBounds", inPlace := ["internal/bytealg.IndexByteString"], recurses := true, apart := false }
def SyntaxBoundsSaid : Prop := syntaxBoundsRow.holds Try.pinned (OpenSpec.ofChange syntaxBoundsSpec)

/-- ITS FALSE NEIGHBOUR: 'it returns false'. Refute it at one input. -/
def syntaxBoundsWrong : ChangeSpec := { name := "syntaxBounds", fn := fun _ => fun
  | [d1, d2, d3] => { results := [.lit (.bool false)], args := [d1, d2, d3] }
  | _ => none }
def SyntaxBoundsWrongFalsely : Prop := syntaxBoundsRow.holds Try.pinned (OpenSpec.ofChange syntaxBoundsWrong)

/-- 'raddlelaw04.SyntaxLetters': WHATEVER THE INPUT: true; the input reads as it did. -/
def syntaxLettersSpec : ChangeSpec := { name := "syntaxLetters", fn := fun _ => fun
  | [d] => { results := [.lit (.bool true)], args := [d] }
  | _ => none }
def syntaxLettersRow : OpenClaim := { program := "ytbepeoipaiahgaa", sum := "1059a5c1b9a91c619825fa9c215e3fedac23aaf7e7d568636ee9ab4d0faef4ba", func := "raddle/raddlelaw04.SyntaxLetters", spec := "syntaxLetters", inPlace := ["internal/bytealg.IndexByteString"], recurses := true, apart := false }
def SyntaxLettersSaid : Prop := syntaxLettersRow.holds Try.pinned (OpenSpec.ofChange syntaxLettersSpec)

/-- ITS FALSE NEIGHBOUR: 'it returns false'. Refute it at one input. -/
def syntaxLettersWrong : ChangeSpec := { name := "syntaxLetters", fn := fun _ => fun
  | [d] => { results := [.lit (.bool false)], args := [d] }
  | _ => none }
def SyntaxLettersWrongFalsely : Prop := syntaxLettersRow.holds Try.pinned (OpenSpec.ofChange syntaxLettersWrong)

/-- 'raddlelaw04.SyntaxName': WHATEVER THE INPUT: true; the input reads as it did. -/
def syntaxNameSpec : ChangeSpec := { name := "syntaxName", fn := fun _ => fun
  | [d] => { results := [.lit (.bool true)], args := [d] }
  | _ => none }
def syntaxNameRow : OpenClaim := { program := "ytbepeoipaiahgaa", sum := "1059a5c1b9a91c619825fa9c215e3fedac23aaf7e7d568636ee9ab4d0faef4ba", func := "raddle/raddlelaw04.SyntaxName", spec := "syntaxName", inPlace := ["internal/bytealg.IndexByteString"], recurses := true, apart := false }
def SyntaxNameSaid : Prop := syntaxNameRow.holds Try.pinned (OpenSpec.ofChange syntaxNameSpec)

/-- ITS FALSE NEIGHBOUR: 'it returns false'. Refute it at one input. -/
def syntaxNameWrong : ChangeSpec := { name := "syntaxName", fn := fun _ => fun
  | [d] => { results := [.lit (.bool false)], args := [d] }
  | _ => none }
def SyntaxNameWrongFalsely : Prop := syntaxNameRow.holds Try.pinned (OpenSpec.ofChange syntaxNameWrong)

/-- 'raddlelaw04.SyntaxRights': WHATEVER THE INPUT: true; the input reads as it did. -/
def syntaxRightsSpec : ChangeSpec := { name := "syntaxRights", fn := fun _ => fun
  | [d] => { results := [.lit (.bool true)], args := [d] }
  | _ => none }
def syntaxRightsRow : OpenClaim := { program := "ytbepeoipaiahgaa", sum := "1059a5c1b9a91c619825fa9c215e3fedac23aaf7e7d568636ee9ab4d0faef4ba", func := "raddle/raddlelaw04.SyntaxRights", spec := "syntaxRights", inPlace := ["internal/bytealg.IndexByteString"], recurses := true, apart := false }
def SyntaxRightsSaid : Prop := syntaxRightsRow.holds Try.pinned (OpenSpec.ofChange syntaxRightsSpec)

/-- ITS FALSE NEIGHBOUR: 'it returns false'. Refute it at one input. -/
def syntaxRightsWrong : ChangeSpec := { name := "syntaxRights", fn := fun _ => fun
  | [d] => { results := [.lit (.bool false)], args := [d] }
  | _ => none }
def SyntaxRightsWrongFalsely : Prop := syntaxRightsRow.holds Try.pinned (OpenSpec.ofChange syntaxRightsWrong)

/-- 'raddlelaw04.SyntaxTree': WHATEVER THE INPUT: true; the input reads as it did. -/
def syntaxTreeSpec : ChangeSpec := { name := "syntaxTree", fn := fun _ => fun
  | [d] => { results := [.lit (.bool true)], args := [d] }
  | _ => none }
def syntaxTreeRow : OpenClaim := { program := "ytbepeoipaiahgaa", sum := "1059a5c1b9a91c619825fa9c215e3fedac23aaf7e7d568636ee9ab4d0faef4ba", func := "raddle/raddlelaw04.SyntaxTree", spec := "syntaxTree", inPlace := ["internal/bytealg.IndexByteString"], recurses := true, apart := false }
def SyntaxTreeSaid : Prop := syntaxTreeRow.holds Try.pinned (OpenSpec.ofChange syntaxTreeSpec)

/-- ITS FALSE NEIGHBOUR: 'it returns false'. Refute it at one input. -/
def syntaxTreeWrong : ChangeSpec := { name := "syntaxTree", fn := fun _ => fun
  | [d] => { results := [.lit (.bool false)], args := [d] }
  | _ => none }
def SyntaxTreeWrongFalsely : Prop := syntaxTreeRow.holds Try.pinned (OpenSpec.ofChange syntaxTreeWrong)

/- THE SECOND FORM. 'bulk': how many values and letters a reading holds, each counted each time it is reached (what is shared counts as often as it is met; a slice's spare places count too). A statement '..UptoSaid' is the law's where the arguments, and the package variables that the reading takes, are together of bulk at most 1048576: NARROWER than '..Said'. Prove '..Said' where nothing that the law and all that it calls make is longer than what came in: it says more and counts as full. Else prove '..UptoSaid'. A law counts once. -/
mutual
def uptoBulk {H : Type} : DataW H → Nat
  | .lit (.string bytes) => bytes.length + 1
  | .lit _ => 1
  | .nil => 1
  | .ptr d => uptoBulk d + 1
  | .slice elems spare => uptoBulkAll elems + uptoBulkAll spare + 1
  | .agg parts => uptoBulkAll parts + 1
  | .iface _ d => uptoBulk d + 1
  | .map entries => uptoBulkEntries entries + 1
  | .held _ => 1
def uptoBulkAll {H : Type} : List (DataW H) → Nat
  | [] => 0
  | d :: r => uptoBulk d + uptoBulkAll r
def uptoBulkEntries {H : Type} : List (Lit × DataW H) → Nat
  | [] => 0
  | x :: r => uptoBulkEntry x + uptoBulkEntries r
def uptoBulkEntry {H : Type} : Lit × DataW H → Nat
  | (.string bytes, d) => bytes.length + uptoBulk d + 1
  | (_, d) => uptoBulk d + 1
 end
def uptoSmall : (H : Type) → List (DataW H) → Bool := fun _ ds => decide (uptoBulkAll ds ≤ 1048576)
def OpenSpec.upto (s : _root_.Go.ChangeSpec) : _root_.Go.OpenSpec := { _root_.Go.OpenSpec.ofChange s with cond := some uptoSmall }

/-- 'raddlelaw04.SyntaxGroup', WHERE WHAT IT READS IS OF BULK AT MOST 1048576: true; the input reads as it did. -/
def syntaxGroupUptoRow : OpenClaim := { program := "ytbepeoipaiahgaa", sum := "1059a5c1b9a91c619825fa9c215e3fedac23aaf7e7d568636ee9ab4d0faef4ba", func := "raddle/raddlelaw04.SyntaxGroup", spec := "syntaxGroup", inPlace := ["internal/bytealg.IndexByteString"], recurses := true, apart := false, narrowed := true }
def SyntaxGroupUptoSaid : Prop := syntaxGroupUptoRow.holds Try.pinned (OpenSpec.upto syntaxGroupSpec)

/-- 'raddlelaw04.SyntaxBounds', WHERE WHAT IT READS IS OF BULK AT MOST 1048576: true; the input reads as it did. -/
def syntaxBoundsUptoRow : OpenClaim := { program := "ytbepeoipaiahgaa", sum := "1059a5c1b9a91c619825fa9c215e3fedac23aaf7e7d568636ee9ab4d0faef4ba", func := "raddle/raddlelaw04.SyntaxBounds", spec := "syntaxBounds", inPlace := ["internal/bytealg.IndexByteString"], recurses := true, apart := false, narrowed := true }
def SyntaxBoundsUptoSaid : Prop := syntaxBoundsUptoRow.holds Try.pinned (OpenSpec.upto syntaxBoundsSpec)

/-- 'raddlelaw04.SyntaxLetters', WHERE WHAT IT READS IS OF BULK AT MOST 1048576: true; the input reads as it did. -/
def syntaxLettersUptoRow : OpenClaim := { program := "ytbepeoipaiahgaa", sum := "1059a5c1b9a91c619825fa9c215e3fedac23aaf7e7d568636ee9ab4d0faef4ba", func := "raddle/raddlelaw04.SyntaxLetters", spec := "syntaxLetters", inPlace := ["internal/bytealg.IndexByteString"], recurses := true, apart := false, narrowed := true }
def SyntaxLettersUptoSaid : Prop := syntaxLettersUptoRow.holds Try.pinned (OpenSpec.upto syntaxLettersSpec)

/-- 'raddlelaw04.SyntaxName', WHERE WHAT IT READS IS OF BULK AT MOST 1048576: true; the input reads as it did. -/
def syntaxNameUptoRow : OpenClaim := { program := "ytbepeoipaiahgaa", sum := "1059a5c1b9a91c619825fa9c215e3fedac23aaf7e7d568636ee9ab4d0faef4ba", func := "raddle/raddlelaw04.SyntaxName", spec := "syntaxName", inPlace := ["internal/bytealg.IndexByteString"], recurses := true, apart := false, narrowed := true }
def SyntaxNameUptoSaid : Prop := syntaxNameUptoRow.holds Try.pinned (OpenSpec.upto syntaxNameSpec)

/-- 'raddlelaw04.SyntaxRights', WHERE WHAT IT READS IS OF BULK AT MOST 1048576: true; the input reads as it did. -/
def syntaxRightsUptoRow : OpenClaim := { program := "ytbepeoipaiahgaa", sum := "1059a5c1b9a91c619825fa9c215e3fedac23aaf7e7d568636ee9ab4d0faef4ba", func := "raddle/raddlelaw04.SyntaxRights", spec := "syntaxRights", inPlace := ["internal/bytealg.IndexByteString"], recurses := true, apart := false, narrowed := true }
def SyntaxRightsUptoSaid : Prop := syntaxRightsUptoRow.holds Try.pinned (OpenSpec.upto syntaxRightsSpec)

/-- 'raddlelaw04.SyntaxTree', WHERE WHAT IT READS IS OF BULK AT MOST 1048576: true; the input reads as it did. -/
def syntaxTreeUptoRow : OpenClaim := { program := "ytbepeoipaiahgaa", sum := "1059a5c1b9a91c619825fa9c215e3fedac23aaf7e7d568636ee9ab4d0faef4ba", func := "raddle/raddlelaw04.SyntaxTree", spec := "syntaxTree", inPlace := ["internal/bytealg.IndexByteString"], recurses := true, apart := false, narrowed := true }
def SyntaxTreeUptoSaid : Prop := syntaxTreeUptoRow.holds Try.pinned (OpenSpec.upto syntaxTreeSpec)

end Rows
end Go.Proofs.Ytbepeoipaiahgaa
