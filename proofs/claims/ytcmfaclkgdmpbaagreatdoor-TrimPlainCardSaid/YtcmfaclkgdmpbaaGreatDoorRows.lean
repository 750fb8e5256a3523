/-
  NARROWER THAN 'FOR EVERY INPUT', by the rows' own cells (each row's printed sentence says how): TrimTells: laid · TrimTwice: laid · TrimSame: laid · TrimWays: laid · TrimLive: laid · TrimPlain: laid.
  DERIVED. THE GIVEN ROWS OF THIS SEAT. 6 by the template 'for every input the law returns true; each argument reads behind the call as it read before'; 0 by the template 'total and deterministic' (their statements: YtcmfaclkgdmpbaaGreatDoorTotals.lean).
  GIVEN WITH THE SEED: the statements are not yours to turn. If you find one false, say at which input.
  Laid BY PROGRAM, IN A SANDBOX (cutbox-rows.mjs): the forced cells as the released guide's own fill.sh prints them over the translation 5b88357f4681db4b… (all of the seat's roots in one cut). By AI agents, Wed Nov 11 2026. No macro, syntax, notation, axiom, sorry.
-/
import Derived.Test.YtcmfaclkgdmpbaaGreatDoorChecked
import GoSem.Claim
import GoSem.ClaimJoined
import GoSem.ClaimMapViews
import Derived.JoinedTies
import Derived.KernelRfl
namespace Go.Proofs.YtcmfaclkgdmpbaaGreatDoor
/- THE CELL 'sum', in the pinned program and in every row, IS THE sha256 OF THE DUMP (.gsa) THAT YtcmfaclkgdmpbaaGreatDoorProg.lean LOADS. Nothing in Lean hashes anything: it is a label: what it is worth is what the hold of that sum in a sandbox is worth. -/
noncomputable def Tryz.pinned : Pinned := { name := "ytcmfaclkgdmpbaagreatdoor", sum := "5b88357f4681db4b3430e03e4402a988e44b404f73351d15368de690885d0806", checked := Tryz.checked }
namespace Rows
def none {H : Type} : Left H := { results := [], args := [] }

/- WHAT THE LISTED PACKAGE-LEVEL VARIABLES READ AS WHEN THE CALL BEGINS. Each datum BY PROGRAM (the guide's laid-datum.mjs) off the statement by which the dump's own 'gosem.cut.vars' lays the variable. In a bare row this is a premise. The card (YtcmfaclkgdmpbaaGreatDoorCards.lean) ties it to the program's text. -/
def laid_math_bits_deBruijn32tab {H : Type} : DataW H := .agg [.lit (.int .u8 0), .lit (.int .u8 1), .lit (.int .u8 28), .lit (.int .u8 2), .lit (.int .u8 29), .lit (.int .u8 14), .lit (.int .u8 24), .lit (.int .u8 3), .lit (.int .u8 30), .lit (.int .u8 22), .lit (.int .u8 20), .lit (.int .u8 15), .lit (.int .u8 25), .lit (.int .u8 17), .lit (.int .u8 4), .lit (.int .u8 8), .lit (.int .u8 31), .lit (.int .u8 27), .lit (.int .u8 13), .lit (.int .u8 23), .lit (.int .u8 21), .lit (.int .u8 19), .lit (.int .u8 16), .lit (.int .u8 7), .lit (.int .u8 26), .lit (.int .u8 12), .lit (.int .u8 18), .lit (.int .u8 6), .lit (.int .u8 11), .lit (.int .u8 5), .lit (.int .u8 10), .lit (.int .u8 9)]
def laid_math_bits_deBruijn64tab {H : Type} : DataW H := .agg [.lit (.int .u8 0), .lit (.int .u8 1), .lit (.int .u8 56), .lit (.int .u8 2), .lit (.int .u8 57), .lit (.int .u8 49), .lit (.int .u8 28), .lit (.int .u8 3), .lit (.int .u8 61), .lit (.int .u8 58), .lit (.int .u8 42), .lit (.int .u8 50), .lit (.int .u8 38), .lit (.int .u8 29), .lit (.int .u8 17), .lit (.int .u8 4), .lit (.int .u8 62), .lit (.int .u8 47), .lit (.int .u8 59), .lit (.int .u8 36), .lit (.int .u8 45), .lit (.int .u8 43), .lit (.int .u8 51), .lit (.int .u8 22), .lit (.int .u8 53), .lit (.int .u8 39), .lit (.int .u8 33), .lit (.int .u8 30), .lit (.int .u8 24), .lit (.int .u8 18), .lit (.int .u8 12), .lit (.int .u8 5), .lit (.int .u8 63), .lit (.int .u8 55), .lit (.int .u8 48), .lit (.int .u8 27), .lit (.int .u8 60), .lit (.int .u8 41), .lit (.int .u8 37), .lit (.int .u8 16), .lit (.int .u8 46), .lit (.int .u8 35), .lit (.int .u8 44), .lit (.int .u8 21), .lit (.int .u8 52), .lit (.int .u8 32), .lit (.int .u8 23), .lit (.int .u8 11), .lit (.int .u8 54), .lit (.int .u8 26), .lit (.int .u8 40), .lit (.int .u8 15), .lit (.int .u8 34), .lit (.int .u8 20), .lit (.int .u8 31), .lit (.int .u8 10), .lit (.int .u8 25), .lit (.int .u8 14), .lit (.int .u8 19), .lit (.int .u8 9), .lit (.int .u8 13), .lit (.int .u8 8), .lit (.int .u8 7), .lit (.int .u8 6)]
def laid_internal_strconv_uint64pow10 {H : Type} : DataW H := .agg [.lit (.int .u64 1), .lit (.int .u64 10), .lit (.int .u64 100), .lit (.int .u64 1000), .lit (.int .u64 10000), .lit (.int .u64 100000), .lit (.int .u64 1000000), .lit (.int .u64 10000000), .lit (.int .u64 100000000), .lit (.int .u64 1000000000), .lit (.int .u64 10000000000), .lit (.int .u64 100000000000), .lit (.int .u64 1000000000000), .lit (.int .u64 10000000000000), .lit (.int .u64 100000000000000), .lit (.int .u64 1000000000000000), .lit (.int .u64 10000000000000000), .lit (.int .u64 100000000000000000), .lit (.int .u64 1000000000000000000), .lit (.int .u64 10000000000000000000)]

/-- 'raddlelaw12.TrimTells': WHATEVER THE INPUT: true; the input reads as it did. -/
def trimTellsSpec : ChangeSpec := { name := "trimTells", fn := fun _ => fun
  | [d] => { results := [.lit (.bool true)], args := [d] }
  | _ => none }
def trimTellsRow : OpenClaim := { program := "ytcmfaclkgdmpbaagreatdoor", sum := "5b88357f4681db4b3430e03e4402a988e44b404f73351d15368de690885d0806", func := "raddle/raddlelaw12.TrimTells", spec := "trimTells", inPlace := ["internal/abi.NoEscape"], unfollowed := true, recurses := true, named := ["internal/strconv.uint64pow10", "math/bits.deBruijn32tab", "math/bits.deBruijn64tab"], plainKeys := false, apart := false, laid := [("math/bits.deBruijn32tab", laid_math_bits_deBruijn32tab), ("math/bits.deBruijn64tab", laid_math_bits_deBruijn64tab), ("internal/strconv.uint64pow10", laid_internal_strconv_uint64pow10)] }
def TrimTellsSaid : Prop := trimTellsRow.holds Tryz.pinned (OpenSpec.ofChange trimTellsSpec)

/-- ITS FALSE NEIGHBOUR: 'it returns false'. Refute it at one input. -/
def trimTellsWrong : ChangeSpec := { name := "trimTells", fn := fun _ => fun
  | [d] => { results := [.lit (.bool false)], args := [d] }
  | _ => none }
def TrimTellsWrongFalsely : Prop := trimTellsRow.holds Tryz.pinned (OpenSpec.ofChange trimTellsWrong)

/-- 'raddlelaw12.TrimTwice': WHATEVER THE INPUT: true; the input reads as it did. -/
def trimTwiceSpec : ChangeSpec := { name := "trimTwice", fn := fun _ => fun
  | [d] => { results := [.lit (.bool true)], args := [d] }
  | _ => none }
def trimTwiceRow : OpenClaim := { program := "ytcmfaclkgdmpbaagreatdoor", sum := "5b88357f4681db4b3430e03e4402a988e44b404f73351d15368de690885d0806", func := "raddle/raddlelaw12.TrimTwice", spec := "trimTwice", inPlace := ["internal/abi.NoEscape"], unfollowed := true, recurses := true, named := ["internal/strconv.uint64pow10", "math/bits.deBruijn32tab", "math/bits.deBruijn64tab"], plainKeys := false, apart := false, laid := [("math/bits.deBruijn32tab", laid_math_bits_deBruijn32tab), ("math/bits.deBruijn64tab", laid_math_bits_deBruijn64tab), ("internal/strconv.uint64pow10", laid_internal_strconv_uint64pow10)] }
def TrimTwiceSaid : Prop := trimTwiceRow.holds Tryz.pinned (OpenSpec.ofChange trimTwiceSpec)

/-- ITS FALSE NEIGHBOUR: 'it returns false'. Refute it at one input. -/
def trimTwiceWrong : ChangeSpec := { name := "trimTwice", fn := fun _ => fun
  | [d] => { results := [.lit (.bool false)], args := [d] }
  | _ => none }
def TrimTwiceWrongFalsely : Prop := trimTwiceRow.holds Tryz.pinned (OpenSpec.ofChange trimTwiceWrong)

/-- 'raddlelaw12.TrimSame': WHATEVER THE INPUT: true; the input reads as it did. -/
def trimSameSpec : ChangeSpec := { name := "trimSame", fn := fun _ => fun
  | [d1, d2] => { results := [.lit (.bool true)], args := [d1, d2] }
  | _ => none }
def trimSameRow : OpenClaim := { program := "ytcmfaclkgdmpbaagreatdoor", sum := "5b88357f4681db4b3430e03e4402a988e44b404f73351d15368de690885d0806", func := "raddle/raddlelaw12.TrimSame", spec := "trimSame", inPlace := ["internal/abi.NoEscape"], unfollowed := true, recurses := true, named := ["internal/strconv.uint64pow10", "math/bits.deBruijn32tab", "math/bits.deBruijn64tab"], plainKeys := false, apart := false, laid := [("math/bits.deBruijn32tab", laid_math_bits_deBruijn32tab), ("math/bits.deBruijn64tab", laid_math_bits_deBruijn64tab), ("internal/strconv.uint64pow10", laid_internal_strconv_uint64pow10)] }
def TrimSameSaid : Prop := trimSameRow.holds Tryz.pinned (OpenSpec.ofChange trimSameSpec)

/-- ITS FALSE NEIGHBOUR: 'it returns false'. Refute it at one input. -/
def trimSameWrong : ChangeSpec := { name := "trimSame", fn := fun _ => fun
  | [d1, d2] => { results := [.lit (.bool false)], args := [d1, d2] }
  | _ => none }
def TrimSameWrongFalsely : Prop := trimSameRow.holds Tryz.pinned (OpenSpec.ofChange trimSameWrong)

/-- 'raddlelaw12.TrimWays': WHATEVER THE INPUT: true; the input reads as it did. -/
def trimWaysSpec : ChangeSpec := { name := "trimWays", fn := fun _ => fun
  | [d1, d2, d3] => { results := [.lit (.bool true)], args := [d1, d2, d3] }
  | _ => none }
def trimWaysRow : OpenClaim := { program := "ytcmfaclkgdmpbaagreatdoor", sum := "5b88357f4681db4b3430e03e4402a988e44b404f73351d15368de690885d0806", func := "raddle/raddlelaw12.TrimWays", spec := "trimWays", inPlace := ["internal/abi.NoEscape"], unfollowed := true, recurses := true, named := ["internal/strconv.uint64pow10", "math/bits.deBruijn32tab", "math/bits.deBruijn64tab"], plainKeys := false, apart := false, laid := [("math/bits.deBruijn32tab", laid_math_bits_deBruijn32tab), ("math/bits.deBruijn64tab", laid_math_bits_deBruijn64tab), ("internal/strconv.uint64pow10", laid_internal_strconv_uint64pow10)] }
def TrimWaysSaid : Prop := trimWaysRow.holds Tryz.pinned (OpenSpec.ofChange trimWaysSpec)

/-- ITS FALSE NEIGHBOUR: 'it returns false'. Refute it at one input. -/
def trimWaysWrong : ChangeSpec := { name := "trimWays", fn := fun _ => fun
  | [d1, d2, d3] => { results := [.lit (.bool false)], args := [d1, d2, d3] }
  | _ => none }
def TrimWaysWrongFalsely : Prop := trimWaysRow.holds Tryz.pinned (OpenSpec.ofChange trimWaysWrong)

/-- 'raddlelaw12.TrimLive': WHATEVER THE INPUT: true; the input reads as it did. -/
def trimLiveSpec : ChangeSpec := { name := "trimLive", fn := fun _ => fun
  | [d] => { results := [.lit (.bool true)], args := [d] }
  | _ => none }
def trimLiveRow : OpenClaim := { program := "ytcmfaclkgdmpbaagreatdoor", sum := "5b88357f4681db4b3430e03e4402a988e44b404f73351d15368de690885d0806", func := "raddle/raddlelaw12.TrimLive", spec := "trimLive", inPlace := ["internal/abi.NoEscape"], unfollowed := true, recurses := true, named := ["internal/strconv.uint64pow10", "math/bits.deBruijn32tab", "math/bits.deBruijn64tab"], plainKeys := false, apart := false, laid := [("math/bits.deBruijn32tab", laid_math_bits_deBruijn32tab), ("math/bits.deBruijn64tab", laid_math_bits_deBruijn64tab), ("internal/strconv.uint64pow10", laid_internal_strconv_uint64pow10)] }
def TrimLiveSaid : Prop := trimLiveRow.holds Tryz.pinned (OpenSpec.ofChange trimLiveSpec)

/-- ITS FALSE NEIGHBOUR: 'it returns false'. Refute it at one input. -/
def trimLiveWrong : ChangeSpec := { name := "trimLive", fn := fun _ => fun
  | [d] => { results := [.lit (.bool false)], args := [d] }
  | _ => none }
def TrimLiveWrongFalsely : Prop := trimLiveRow.holds Tryz.pinned (OpenSpec.ofChange trimLiveWrong)

/-- 'raddlelaw12.TrimPlain': WHATEVER THE INPUT: true; the input reads as it did. -/
def trimPlainSpec : ChangeSpec := { name := "trimPlain", fn := fun _ => fun
  | [d] => { results := [.lit (.bool true)], args := [d] }
  | _ => none }
def trimPlainRow : OpenClaim := { program := "ytcmfaclkgdmpbaagreatdoor", sum := "5b88357f4681db4b3430e03e4402a988e44b404f73351d15368de690885d0806", func := "raddle/raddlelaw12.TrimPlain", spec := "trimPlain", inPlace := ["internal/abi.NoEscape"], unfollowed := true, recurses := true, named := ["internal/strconv.uint64pow10", "math/bits.deBruijn32tab", "math/bits.deBruijn64tab"], plainKeys := false, apart := false, laid := [("math/bits.deBruijn32tab", laid_math_bits_deBruijn32tab), ("math/bits.deBruijn64tab", laid_math_bits_deBruijn64tab), ("internal/strconv.uint64pow10", laid_internal_strconv_uint64pow10)] }
def TrimPlainSaid : Prop := trimPlainRow.holds Tryz.pinned (OpenSpec.ofChange trimPlainSpec)

/-- ITS FALSE NEIGHBOUR: 'it returns false'. Refute it at one input. -/
def trimPlainWrong : ChangeSpec := { name := "trimPlain", fn := fun _ => fun
  | [d] => { results := [.lit (.bool false)], args := [d] }
  | _ => none }
def TrimPlainWrongFalsely : Prop := trimPlainRow.holds Tryz.pinned (OpenSpec.ofChange trimPlainWrong)

/- THE SECOND FORM. 'bulk': how many values and letters a reading holds, each counted each time it is reached (what is shared counts as often as it is met; a slice's spare places count too). A statement '..UptoSaid' is the law's where the arguments, and the package variables that the reading takes, are together of bulk at most 1048576: NARROWER than '..Said'. Prove '..Said' where nothing that the law and all that it calls make is longer than what came in: it says more and counts as full. Else prove '..UptoSaid'. A law counts once. -/
mutual
def uptoBulk {H : Type} : DataW H → Nat
  | .lit (.string bytes) => bytes.length + 1
  | .lit _ => 1
  | .nil => 1
  | .ptr d => uptoBulk d + 1
  | .slice elems spare => uptoBulkAll elems + uptoBulkAll spare + 1
  | .agg parts => uptoBulkAll parts + 1
  | .iface _ d => uptoBulk d + 1
  | .map entries => uptoBulkEntries entries + 1
  | .held _ => 1
def uptoBulkAll {H : Type} : List (DataW H) → Nat
  | [] => 0
  | d :: r => uptoBulk d + uptoBulkAll r
def uptoBulkEntries {H : Type} : List (Lit × DataW H) → Nat
  | [] => 0
  | x :: r => uptoBulkEntry x + uptoBulkEntries r
def uptoBulkEntry {H : Type} : Lit × DataW H → Nat
  | (.string bytes, d) => bytes.length + uptoBulk d + 1
  | (_, d) => uptoBulk d + 1
 end
def uptoSmall : (H : Type) → List (DataW H) → Bool := fun _ ds => decide (uptoBulkAll ds ≤ 1048576)
def OpenSpec.upto (s : _root_.Go.ChangeSpec) : _root_.Go.OpenSpec := { _root_.Go.OpenSpec.ofChange s with cond := some uptoSmall }

/-- 'raddlelaw12.TrimTells', WHERE WHAT IT READS IS OF BULK AT MOST 1048576: true; the input reads as it did. -/
def trimTellsUptoRow : OpenClaim := { program := "ytcmfaclkgdmpbaagreatdoor", sum := "5b88357f4681db4b3430e03e4402a988e44b404f73351d15368de690885d0806", func := "raddle/raddlelaw12.TrimTells", spec := "trimTells", inPlace := ["internal/abi.NoEscape"], unfollowed := true, recurses := true, named := ["internal/strconv.uint64pow10", "math/bits.deBruijn32tab", "math/bits.deBruijn64tab"], plainKeys := false, apart := false, laid := [("math/bits.deBruijn32tab", laid_math_bits_deBruijn32tab), ("math/bits.deBruijn64tab", laid_math_bits_deBruijn64tab), ("internal/strconv.uint64pow10", laid_internal_strconv_uint64pow10)], narrowed := true }
def TrimTellsUptoSaid : Prop := trimTellsUptoRow.holds Tryz.pinned (OpenSpec.upto trimTellsSpec)

/-- 'raddlelaw12.TrimTwice', WHERE WHAT IT READS IS OF BULK AT MOST 1048576: true; the input reads as it did. -/
def trimTwiceUptoRow : OpenClaim := { program := "ytcmfaclkgdmpbaagreatdoor", sum := "5b88357f4681db4b3430e03e4402a988e44b404f73351d15368de690885d0806", func := "raddle/raddlelaw12.TrimTwice", spec := "trimTwice", inPlace := ["internal/abi.NoEscape"], unfollowed := true, recurses := true, named := ["internal/strconv.uint64pow10", "math/bits.deBruijn32tab", "math/bits.deBruijn64tab"], plainKeys := false, apart := false, laid := [("math/bits.deBruijn32tab", laid_math_bits_deBruijn32tab), ("math/bits.deBruijn64tab", laid_math_bits_deBruijn64tab), ("internal/strconv.uint64pow10", laid_internal_strconv_uint64pow10)], narrowed := true }
def TrimTwiceUptoSaid : Prop := trimTwiceUptoRow.holds Tryz.pinned (OpenSpec.upto trimTwiceSpec)

/-- 'raddlelaw12.TrimSame', WHERE WHAT IT READS IS OF BULK AT MOST 1048576: true; the input reads as it did. -/
def trimSameUptoRow : OpenClaim := { program := "ytcmfaclkgdmpbaagreatdoor", sum := "5b88357f4681db4b3430e03e4402a988e44b404f73351d15368de690885d0806", func := "raddle/raddlelaw12.TrimSame", spec := "trimSame", inPlace := ["internal/abi.NoEscape"], unfollowed := true, recurses := true, named := ["internal/strconv.uint64pow10", "math/bits.deBruijn32tab", "math/bits.deBruijn64tab"], plainKeys := false, apart := false, laid := [("math/bits.deBruijn32tab", laid_math_bits_deBruijn32tab), ("math/bits.deBruijn64tab", laid_math_bits_deBruijn64tab), ("internal/strconv.uint64pow10", laid_internal_strconv_uint64pow10)], narrowed := true }
def TrimSameUptoSaid : Prop := trimSameUptoRow.holds Tryz.pinned (OpenSpec.upto trimSameSpec)

/-- 'raddlelaw12.TrimWays', WHERE WHAT IT READS IS OF BULK AT MOST 1048576: true; the input reads as it did. -/
def trimWaysUptoRow : OpenClaim := { program := "ytcmfaclkgdmpbaagreatdoor", sum := "5b88357f4681db4b3430e03e4402a988e44b404f73351d15368de690885d0806", func := "raddle/raddlelaw12.TrimWays", spec := "trimWays", inPlace := ["internal/abi.NoEscape"], unfollowed := true, recurses := true, named := ["internal/strconv.uint64pow10", "math/bits.deBruijn32tab", "math/bits.deBruijn64tab"], plainKeys := false, apart := false, laid := [("math/bits.deBruijn32tab", laid_math_bits_deBruijn32tab), ("math/bits.deBruijn64tab", laid_math_bits_deBruijn64tab), ("internal/strconv.uint64pow10", laid_internal_strconv_uint64pow10)], narrowed := true }
def TrimWaysUptoSaid : Prop := trimWaysUptoRow.holds Tryz.pinned (OpenSpec.upto trimWaysSpec)

/-- 'raddlelaw12.TrimLive', WHERE WHAT IT READS IS OF BULK AT MOST 1048576: true; the input reads as it did. -/
def trimLiveUptoRow : OpenClaim := { program := "ytcmfaclkgdmpbaagreatdoor", sum := "5b88357f4681db4b3430e03e4402a988e44b404f73351d15368de690885d0806", func := "raddle/raddlelaw12.TrimLive", spec := "trimLive", inPlace := ["internal/abi.NoEscape"], unfollowed := true, recurses := true, named := ["internal/strconv.uint64pow10", "math/bits.deBruijn32tab", "math/bits.deBruijn64tab"], plainKeys := false, apart := false, laid := [("math/bits.deBruijn32tab", laid_math_bits_deBruijn32tab), ("math/bits.deBruijn64tab", laid_math_bits_deBruijn64tab), ("internal/strconv.uint64pow10", laid_internal_strconv_uint64pow10)], narrowed := true }
def TrimLiveUptoSaid : Prop := trimLiveUptoRow.holds Tryz.pinned (OpenSpec.upto trimLiveSpec)

/-- 'raddlelaw12.TrimPlain', WHERE WHAT IT READS IS OF BULK AT MOST 1048576: true; the input reads as it did. -/
def trimPlainUptoRow : OpenClaim := { program := "ytcmfaclkgdmpbaagreatdoor", sum := "5b88357f4681db4b3430e03e4402a988e44b404f73351d15368de690885d0806", func := "raddle/raddlelaw12.TrimPlain", spec := "trimPlain", inPlace := ["internal/abi.NoEscape"], unfollowed := true, recurses := true, named := ["internal/strconv.uint64pow10", "math/bits.deBruijn32tab", "math/bits.deBruijn64tab"], plainKeys := false, apart := false, laid := [("math/bits.deBruijn32tab", laid_math_bits_deBruijn32tab), ("math/bits.deBruijn64tab", laid_math_bits_deBruijn64tab), ("internal/strconv.uint64pow10", laid_internal_strconv_uint64pow10)], narrowed := true }
def TrimPlainUptoSaid : Prop := trimPlainUptoRow.holds Tryz.pinned (OpenSpec.upto trimPlainSpec)

end Rows
end Go.Proofs.YtcmfaclkgdmpbaaGreatDoor
