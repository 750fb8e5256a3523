/-
  No cell of these rows narrows 'for every input' (looked for: loops, veiled, ifaces, maps, wideKeys, modest, calm, conditions, laid).
  DERIVED. THE GIVEN ROWS OF THIS SEAT. 7 by the template 'for every input the law returns true; each argument reads behind the call as it read before'; 0 by the template 'total and deterministic' (their statements: YtaipjabggdifoaaTotals.lean).
  GIVEN WITH THE SEED: the statements are not yours to turn. If you find one false, say at which input.
  Laid BY PROGRAM, IN A SANDBOX (cutbox-rows.mjs): the forced cells as the released guide's own fill.sh prints them over the translation b37bba60c8b4100b… (all of the seat's roots in one cut). By AI agents, Wed Nov 11 2026. No macro, syntax, notation, axiom, sorry.
-/
import Derived.Test.YtaipjabggdifoaaChecked
import GoSem.Claim
import GoSem.ClaimJoined
import GoSem.ClaimMapViews
import Derived.JoinedTies
import Derived.KernelRfl
namespace Go.Proofs.Ytaipjabggdifoaa
/- THE CELL 'sum', in the pinned program and in every row, IS THE sha256 OF THE DUMP (.gsa) THAT YtaipjabggdifoaaProg.lean LOADS. Nothing in Lean hashes anything: it is a label: what it is worth is what the hold of that sum in a sandbox is worth. -/
noncomputable def Try.pinned : Pinned := { name := "ytaipjabggdifoaa", sum := "b37bba60c8b4100bd4226660b6d20e7f2092bcdec0256b2958781d41e05361a2", checked := Try.checked }
namespace Rows
def none {H : Type} : Left H := { results := [], args := [] }

/-- 'raddlelaw14.TableEncodes': WHATEVER THE INPUT: true; the input reads as it did. -/
def tableEncodesSpec : ChangeSpec := { name := "tableEncodes", fn := fun _ => fun
  | [d1, d2, d3] => { results := [.lit (.bool true)], args := [d1, d2, d3] }
  | _ => none }
def tableEncodesRow : OpenClaim := { program := "ytaipjabggdifoaa", sum := "b37bba60c8b4100bd4226660b6d20e7f2092bcdec0256b2958781d41e05361a2", func := "raddle/raddlelaw14.TableEncodes", spec := "tableEncodes", unfollowed := true, recurses := true, apart := false }
def TableEncodesSaid : Prop := tableEncodesRow.holds Try.pinned (OpenSpec.ofChange tableEncodesSpec)

/-- ITS FALSE NEIGHBOUR: 'it returns false'. Refute it at one input. -/
def tableEncodesWrong : ChangeSpec := { name := "tableEncodes", fn := fun _ => fun
  | [d1, d2, d3] => { results := [.lit (.bool false)], args := [d1, d2, d3] }
  | _ => none }
def TableEncodesWrongFalsely : Prop := tableEncodesRow.holds Try.pinned (OpenSpec.ofChange tableEncodesWrong)

/-- 'raddlelaw14.TableOrder': WHATEVER THE INPUT: true; the input reads as it did. -/
def tableOrderSpec : ChangeSpec := { name := "tableOrder", fn := fun _ => fun
  | [d1, d2] => { results := [.lit (.bool true)], args := [d1, d2] }
  | _ => none }
def tableOrderRow : OpenClaim := { program := "ytaipjabggdifoaa", sum := "b37bba60c8b4100bd4226660b6d20e7f2092bcdec0256b2958781d41e05361a2", func := "raddle/raddlelaw14.TableOrder", spec := "tableOrder", unfollowed := true, recurses := true, apart := false }
def TableOrderSaid : Prop := tableOrderRow.holds Try.pinned (OpenSpec.ofChange tableOrderSpec)

/-- ITS FALSE NEIGHBOUR: 'it returns false'. Refute it at one input. -/
def tableOrderWrong : ChangeSpec := { name := "tableOrder", fn := fun _ => fun
  | [d1, d2] => { results := [.lit (.bool false)], args := [d1, d2] }
  | _ => none }
def TableOrderWrongFalsely : Prop := tableOrderRow.holds Try.pinned (OpenSpec.ofChange tableOrderWrong)

/-- 'raddlelaw14.TableSame': WHATEVER THE INPUT: true; the input reads as it did. -/
def tableSameSpec : ChangeSpec := { name := "tableSame", fn := fun _ => fun
  | [d1, d2] => { results := [.lit (.bool true)], args := [d1, d2] }
  | _ => none }
def tableSameRow : OpenClaim := { program := "ytaipjabggdifoaa", sum := "b37bba60c8b4100bd4226660b6d20e7f2092bcdec0256b2958781d41e05361a2", func := "raddle/raddlelaw14.TableSame", spec := "tableSame", unfollowed := true, recurses := true, apart := false }
def TableSameSaid : Prop := tableSameRow.holds Try.pinned (OpenSpec.ofChange tableSameSpec)

/-- ITS FALSE NEIGHBOUR: 'it returns false'. Refute it at one input. -/
def tableSameWrong : ChangeSpec := { name := "tableSame", fn := fun _ => fun
  | [d1, d2] => { results := [.lit (.bool false)], args := [d1, d2] }
  | _ => none }
def TableSameWrongFalsely : Prop := tableSameRow.holds Try.pinned (OpenSpec.ofChange tableSameWrong)

/-- 'raddlelaw14.TableLong': WHATEVER THE INPUT: true; the input reads as it did. -/
def tableLongSpec : ChangeSpec := { name := "tableLong", fn := fun _ => fun
  | [d1, d2] => { results := [.lit (.bool true)], args := [d1, d2] }
  | _ => none }
def tableLongRow : OpenClaim := { program := "ytaipjabggdifoaa", sum := "b37bba60c8b4100bd4226660b6d20e7f2092bcdec0256b2958781d41e05361a2", func := "raddle/raddlelaw14.TableLong", spec := "tableLong", unfollowed := true, recurses := true, apart := false }
def TableLongSaid : Prop := tableLongRow.holds Try.pinned (OpenSpec.ofChange tableLongSpec)

/-- ITS FALSE NEIGHBOUR: 'it returns false'. Refute it at one input. -/
def tableLongWrong : ChangeSpec := { name := "tableLong", fn := fun _ => fun
  | [d1, d2] => { results := [.lit (.bool false)], args := [d1, d2] }
  | _ => none }
def TableLongWrongFalsely : Prop := tableLongRow.holds Try.pinned (OpenSpec.ofChange tableLongWrong)

/-- 'raddlelaw14.TableDecodes': WHATEVER THE INPUT: true; the input reads as it did. -/
def tableDecodesSpec : ChangeSpec := { name := "tableDecodes", fn := fun _ => fun
  | [d] => { results := [.lit (.bool true)], args := [d] }
  | _ => none }
def tableDecodesRow : OpenClaim := { program := "ytaipjabggdifoaa", sum := "b37bba60c8b4100bd4226660b6d20e7f2092bcdec0256b2958781d41e05361a2", func := "raddle/raddlelaw14.TableDecodes", spec := "tableDecodes", inPlace := ["internal/abi.NoEscape", "internal/bytealg.MakeNoZero"], unfollowed := true, recurses := true, apart := false }
def TableDecodesSaid : Prop := tableDecodesRow.holds Try.pinned (OpenSpec.ofChange tableDecodesSpec)

/-- ITS FALSE NEIGHBOUR: 'it returns false'. Refute it at one input. -/
def tableDecodesWrong : ChangeSpec := { name := "tableDecodes", fn := fun _ => fun
  | [d] => { results := [.lit (.bool false)], args := [d] }
  | _ => none }
def TableDecodesWrongFalsely : Prop := tableDecodesRow.holds Try.pinned (OpenSpec.ofChange tableDecodesWrong)

/-- 'raddlelaw14.TableBack': WHATEVER THE INPUT: true; the input reads as it did. -/
def tableBackSpec : ChangeSpec := { name := "tableBack", fn := fun _ => fun
  | [d1, d2, d3] => { results := [.lit (.bool true)], args := [d1, d2, d3] }
  | _ => none }
def tableBackRow : OpenClaim := { program := "ytaipjabggdifoaa", sum := "b37bba60c8b4100bd4226660b6d20e7f2092bcdec0256b2958781d41e05361a2", func := "raddle/raddlelaw14.TableBack", spec := "tableBack", inPlace := ["internal/abi.NoEscape", "internal/bytealg.MakeNoZero"], unfollowed := true, recurses := true, apart := false }
def TableBackSaid : Prop := tableBackRow.holds Try.pinned (OpenSpec.ofChange tableBackSpec)

/-- ITS FALSE NEIGHBOUR: 'it returns false'. Refute it at one input. -/
def tableBackWrong : ChangeSpec := { name := "tableBack", fn := fun _ => fun
  | [d1, d2, d3] => { results := [.lit (.bool false)], args := [d1, d2, d3] }
  | _ => none }
def TableBackWrongFalsely : Prop := tableBackRow.holds Try.pinned (OpenSpec.ofChange tableBackWrong)

/-- 'raddlelaw14.TableOnce': WHATEVER THE INPUT: true; the input reads as it did. -/
def tableOnceSpec : ChangeSpec := { name := "tableOnce", fn := fun _ => fun
  | [d1, d2, d3] => { results := [.lit (.bool true)], args := [d1, d2, d3] }
  | _ => none }
def tableOnceRow : OpenClaim := { program := "ytaipjabggdifoaa", sum := "b37bba60c8b4100bd4226660b6d20e7f2092bcdec0256b2958781d41e05361a2", func := "raddle/raddlelaw14.TableOnce", spec := "tableOnce", inPlace := ["internal/abi.NoEscape", "internal/bytealg.MakeNoZero"], unfollowed := true, recurses := true, apart := false }
def TableOnceSaid : Prop := tableOnceRow.holds Try.pinned (OpenSpec.ofChange tableOnceSpec)

/-- ITS FALSE NEIGHBOUR: 'it returns false'. Refute it at one input. -/
def tableOnceWrong : ChangeSpec := { name := "tableOnce", fn := fun _ => fun
  | [d1, d2, d3] => { results := [.lit (.bool false)], args := [d1, d2, d3] }
  | _ => none }
def TableOnceWrongFalsely : Prop := tableOnceRow.holds Try.pinned (OpenSpec.ofChange tableOnceWrong)

/- THE SECOND FORM. 'bulk': how many values and letters a reading holds, each counted each time it is reached (what is shared counts as often as it is met; a slice's spare places count too). A statement '..UptoSaid' is the law's where the arguments, and the package variables that the reading takes, are together of bulk at most 1048576: NARROWER than '..Said'. Prove '..Said' where nothing that the law and all that it calls make is longer than what came in: it says more and counts as full. Else prove '..UptoSaid'. A law counts once. -/
mutual
def uptoBulk {H : Type} : DataW H → Nat
  | .lit (.string bytes) => bytes.length + 1
  | .lit _ => 1
  | .nil => 1
  | .ptr d => uptoBulk d + 1
  | .slice elems spare => uptoBulkAll elems + uptoBulkAll spare + 1
  | .agg parts => uptoBulkAll parts + 1
  | .iface _ d => uptoBulk d + 1
  | .map entries => uptoBulkEntries entries + 1
  | .held _ => 1
def uptoBulkAll {H : Type} : List (DataW H) → Nat
  | [] => 0
  | d :: r => uptoBulk d + uptoBulkAll r
def uptoBulkEntries {H : Type} : List (Lit × DataW H) → Nat
  | [] => 0
  | x :: r => uptoBulkEntry x + uptoBulkEntries r
def uptoBulkEntry {H : Type} : Lit × DataW H → Nat
  | (.string bytes, d) => bytes.length + uptoBulk d + 1
  | (_, d) => uptoBulk d + 1
 end
def uptoSmall : (H : Type) → List (DataW H) → Bool := fun _ ds => decide (uptoBulkAll ds ≤ 1048576)
def OpenSpec.upto (s : _root_.Go.ChangeSpec) : _root_.Go.OpenSpec := { _root_.Go.OpenSpec.ofChange s with cond := some uptoSmall }

/-- 'raddlelaw14.TableEncodes', WHERE WHAT IT READS IS OF BULK AT MOST 1048576: true; the input reads as it did. -/
def tableEncodesUptoRow : OpenClaim := { program := "ytaipjabggdifoaa", sum := "b37bba60c8b4100bd4226660b6d20e7f2092bcdec0256b2958781d41e05361a2", func := "raddle/raddlelaw14.TableEncodes", spec := "tableEncodes", unfollowed := true, recurses := true, apart := false, narrowed := true }
def TableEncodesUptoSaid : Prop := tableEncodesUptoRow.holds Try.pinned (OpenSpec.upto tableEncodesSpec)

/-- 'raddlelaw14.TableOrder', WHERE WHAT IT READS IS OF BULK AT MOST 1048576: true; the input reads as it did. -/
def tableOrderUptoRow : OpenClaim := { program := "ytaipjabggdifoaa", sum := "b37bba60c8b4100bd4226660b6d20e7f2092bcdec0256b2958781d41e05361a2", func := "raddle/raddlelaw14.TableOrder", spec := "tableOrder", unfollowed := true, recurses := true, apart := false, narrowed := true }
def TableOrderUptoSaid : Prop := tableOrderUptoRow.holds Try.pinned (OpenSpec.upto tableOrderSpec)

/-- 'raddlelaw14.TableSame', WHERE WHAT IT READS IS OF BULK AT MOST 1048576: true; the input reads as it did. -/
def tableSameUptoRow : OpenClaim := { program := "ytaipjabggdifoaa", sum := "b37bba60c8b4100bd4226660b6d20e7f2092bcdec0256b2958781d41e05361a2", func := "raddle/raddlelaw14.TableSame", spec := "tableSame", unfollowed := true, recurses := true, apart := false, narrowed := true }
def TableSameUptoSaid : Prop := tableSameUptoRow.holds Try.pinned (OpenSpec.upto tableSameSpec)

/-- 'raddlelaw14.TableLong', WHERE WHAT IT READS IS OF BULK AT MOST 1048576: true; the input reads as it did. -/
def tableLongUptoRow : OpenClaim := { program := "ytaipjabggdifoaa", sum := "b37bba60c8b4100bd4226660b6d20e7f2092bcdec0256b2958781d41e05361a2", func := "raddle/raddlelaw14.TableLong", spec := "tableLong", unfollowed := true, recurses := true, apart := false, narrowed := true }
def TableLongUptoSaid : Prop := tableLongUptoRow.holds Try.pinned (OpenSpec.upto tableLongSpec)

/-- 'raddlelaw14.TableDecodes', WHERE WHAT IT READS IS OF BULK AT MOST 1048576: true; the input reads as it did. -/
def tableDecodesUptoRow : OpenClaim := { program := "ytaipjabggdifoaa", sum := "b37bba60c8b4100bd4226660b6d20e7f2092bcdec0256b2958781d41e05361a2", func := "raddle/raddlelaw14.TableDecodes", spec := "tableDecodes", inPlace := ["internal/abi.NoEscape", "internal/bytealg.MakeNoZero"], unfollowed := true, recurses := true, apart := false, narrowed := true }
def TableDecodesUptoSaid : Prop := tableDecodesUptoRow.holds Try.pinned (OpenSpec.upto tableDecodesSpec)

/-- 'raddlelaw14.TableBack', WHERE WHAT IT READS IS OF BULK AT MOST 1048576: true; the input reads as it did. -/
def tableBackUptoRow : OpenClaim := { program := "ytaipjabggdifoaa", sum := "b37bba60c8b4100bd4226660b6d20e7f2092bcdec0256b2958781d41e05361a2", func := "raddle/raddlelaw14.TableBack", spec := "tableBack", inPlace := ["internal/abi.NoEscape", "internal/bytealg.MakeNoZero"], unfollowed := true, recurses := true, apart := false, narrowed := true }
def TableBackUptoSaid : Prop := tableBackUptoRow.holds Try.pinned (OpenSpec.upto tableBackSpec)

/-- 'raddlelaw14.TableOnce', WHERE WHAT IT READS IS OF BULK AT MOST 1048576: true; the input reads as it did. -/
def tableOnceUptoRow : OpenClaim := { program := "ytaipjabggdifoaa", sum := "b37bba60c8b4100bd4226660b6d20e7f2092bcdec0256b2958781d41e05361a2", func := "raddle/raddlelaw14.TableOnce", spec := "tableOnce", inPlace := ["internal/abi.NoEscape", "internal/bytealg.MakeNoZero"], unfollowed := true, recurses := true, apart := false, narrowed := true }
def TableOnceUptoSaid : Prop := tableOnceUptoRow.holds Try.pinned (OpenSpec.upto tableOnceSpec)

end Rows
end Go.Proofs.Ytaipjabggdifoaa
