/-
  DERIVED. GIVEN WITH THE SEED: THE CARDS: each row of YtjgldamcldbbfaaDoorRows.lean that lists a variable, with what it lists TIED to the program's text (the seventh form; the later family's looks); each row that meets fmt, with fmt's text TOLD by the authors' own Lean function (tested against real Go, not proved from fmt's source: count such statements apart). THE CARD IS WHAT COUNTS. Prove the row's statement (the work); the ties are given (YtjgldamcldbbfaaDoorTie.lean); close each card by the builder's one call (the guide's Derived/Test/ToyasCard.lean, 'card_holds'). Laid BY PROGRAM, IN A SANDBOX (cutbox-door.mjs). By AI agents, Wed Nov 11 2026. No macro, syntax, notation, axiom, sorry.
-/
import Derived.Test.YtjgldamcldbbfaaDoorRows
import GoSem.ClaimSeven
namespace Go.Proofs.YtjgldamcldbbfaaDoor
namespace Rows

/-- THE TIED CARD OF 'raddlelaw01.BsetLists'. -/
def bsetListsCard : Claim7 := { stood := { row := bsetListsRow, standIns := [], harness := (true, "e76e61662a0575a74b4bf3577d6e05d5e8b856dabaddd1105dd94ebd9a624e5f"), looks := false }, kinds := [], alts := [], laidByText := true, laidKinds := [.data], laidTests := true, laidLooks := .later }
def BsetListsCardSaid : Prop := Claim7.holds Tryd.pinned (.plain (OpenSpec.ofChange bsetListsSpec)) bsetListsCard

/-- THE TIED CARD OF 'raddlelaw01.BsetBack'. -/
def bsetBackCard : Claim7 := { stood := { row := bsetBackRow, standIns := [], harness := (true, "e76e61662a0575a74b4bf3577d6e05d5e8b856dabaddd1105dd94ebd9a624e5f"), looks := false }, kinds := [], alts := [], laidByText := true, laidKinds := [.data], laidTests := true, laidLooks := .later }
def BsetBackCardSaid : Prop := Claim7.holds Tryd.pinned (.plain (OpenSpec.ofChange bsetBackSpec)) bsetBackCard

/-- THE TIED CARD OF 'raddlelaw01.BsetFolds'. -/
def bsetFoldsCard : Claim7 := { stood := { row := bsetFoldsRow, standIns := [], harness := (true, "e76e61662a0575a74b4bf3577d6e05d5e8b856dabaddd1105dd94ebd9a624e5f"), looks := false }, kinds := [], alts := [], laidByText := true, laidKinds := [.data], laidTests := true, laidLooks := .later }
def BsetFoldsCardSaid : Prop := Claim7.holds Tryd.pinned (.plain (OpenSpec.ofChange bsetFoldsSpec)) bsetFoldsCard

/-- THE TIED CARD OF 'raddlelaw01.BsetSizes'. -/
def bsetSizesCard : Claim7 := { stood := { row := bsetSizesRow, standIns := [], harness := (true, "e76e61662a0575a74b4bf3577d6e05d5e8b856dabaddd1105dd94ebd9a624e5f"), looks := false }, kinds := [], alts := [], laidByText := true, laidKinds := [.data], laidTests := true, laidLooks := .later }
def BsetSizesCardSaid : Prop := Claim7.holds Tryd.pinned (.plain (OpenSpec.ofChange bsetSizesSpec)) bsetSizesCard

/-- THE TIED CARD OF 'raddlelaw01.BsetTells'. -/
def bsetTellsCard : Claim7 := { stood := { row := bsetTellsRow, standIns := [], harness := (true, "e76e61662a0575a74b4bf3577d6e05d5e8b856dabaddd1105dd94ebd9a624e5f"), looks := false }, kinds := [], alts := [], laidByText := true, laidKinds := [.data], laidTests := true, laidLooks := .later }
def BsetTellsCardSaid : Prop := Claim7.holds Tryd.pinned (.plain (OpenSpec.ofChange bsetTellsSpec)) bsetTellsCard

/-- THE TIED CARD OF 'raddlelaw01.BsetLaws'. -/
def bsetLawsCard : Claim7 := { stood := { row := bsetLawsRow, standIns := [], harness := (true, "e76e61662a0575a74b4bf3577d6e05d5e8b856dabaddd1105dd94ebd9a624e5f"), looks := false }, kinds := [], alts := [], laidByText := true, laidKinds := [.data], laidTests := true, laidLooks := .later }
def BsetLawsCardSaid : Prop := Claim7.holds Tryd.pinned (.plain (OpenSpec.ofChange bsetLawsSpec)) bsetLawsCard

/-- THE TIED CARD OF 'raddlelaw01.BsetBytes'. -/
def bsetBytesCard : Claim7 := { stood := { row := bsetBytesRow, standIns := [], harness := (true, "e76e61662a0575a74b4bf3577d6e05d5e8b856dabaddd1105dd94ebd9a624e5f"), looks := false }, kinds := [], alts := [], laidByText := true, laidKinds := [.data], laidTests := true, laidLooks := .later }
def BsetBytesCardSaid : Prop := Claim7.holds Tryd.pinned (.plain (OpenSpec.ofChange bsetBytesSpec)) bsetBytesCard

/-- THE SECOND FORM's CARD OF 'raddlelaw01.BsetLists'. -/
def bsetListsUptoCard : Claim7 := { stood := { row := bsetListsUptoRow, standIns := [], harness := (true, "e76e61662a0575a74b4bf3577d6e05d5e8b856dabaddd1105dd94ebd9a624e5f"), looks := false }, kinds := [], alts := [], laidByText := true, laidKinds := [.data], laidTests := true, laidLooks := .later }
def BsetListsUptoCardSaid : Prop := Claim7.holds Tryd.pinned (.plain (OpenSpec.upto bsetListsSpec)) bsetListsUptoCard

/-- THE SECOND FORM's CARD OF 'raddlelaw01.BsetBack'. -/
def bsetBackUptoCard : Claim7 := { stood := { row := bsetBackUptoRow, standIns := [], harness := (true, "e76e61662a0575a74b4bf3577d6e05d5e8b856dabaddd1105dd94ebd9a624e5f"), looks := false }, kinds := [], alts := [], laidByText := true, laidKinds := [.data], laidTests := true, laidLooks := .later }
def BsetBackUptoCardSaid : Prop := Claim7.holds Tryd.pinned (.plain (OpenSpec.upto bsetBackSpec)) bsetBackUptoCard

/-- THE SECOND FORM's CARD OF 'raddlelaw01.BsetFolds'. -/
def bsetFoldsUptoCard : Claim7 := { stood := { row := bsetFoldsUptoRow, standIns := [], harness := (true, "e76e61662a0575a74b4bf3577d6e05d5e8b856dabaddd1105dd94ebd9a624e5f"), looks := false }, kinds := [], alts := [], laidByText := true, laidKinds := [.data], laidTests := true, laidLooks := .later }
def BsetFoldsUptoCardSaid : Prop := Claim7.holds Tryd.pinned (.plain (OpenSpec.upto bsetFoldsSpec)) bsetFoldsUptoCard

/-- THE SECOND FORM's CARD OF 'raddlelaw01.BsetSizes'. -/
def bsetSizesUptoCard : Claim7 := { stood := { row := bsetSizesUptoRow, standIns := [], harness := (true, "e76e61662a0575a74b4bf3577d6e05d5e8b856dabaddd1105dd94ebd9a624e5f"), looks := false }, kinds := [], alts := [], laidByText := true, laidKinds := [.data], laidTests := true, laidLooks := .later }
def BsetSizesUptoCardSaid : Prop := Claim7.holds Tryd.pinned (.plain (OpenSpec.upto bsetSizesSpec)) bsetSizesUptoCard

/-- THE SECOND FORM's CARD OF 'raddlelaw01.BsetTells'. -/
def bsetTellsUptoCard : Claim7 := { stood := { row := bsetTellsUptoRow, standIns := [], harness := (true, "e76e61662a0575a74b4bf3577d6e05d5e8b856dabaddd1105dd94ebd9a624e5f"), looks := false }, kinds := [], alts := [], laidByText := true, laidKinds := [.data], laidTests := true, laidLooks := .later }
def BsetTellsUptoCardSaid : Prop := Claim7.holds Tryd.pinned (.plain (OpenSpec.upto bsetTellsSpec)) bsetTellsUptoCard

/-- THE SECOND FORM's CARD OF 'raddlelaw01.BsetLaws'. -/
def bsetLawsUptoCard : Claim7 := { stood := { row := bsetLawsUptoRow, standIns := [], harness := (true, "e76e61662a0575a74b4bf3577d6e05d5e8b856dabaddd1105dd94ebd9a624e5f"), looks := false }, kinds := [], alts := [], laidByText := true, laidKinds := [.data], laidTests := true, laidLooks := .later }
def BsetLawsUptoCardSaid : Prop := Claim7.holds Tryd.pinned (.plain (OpenSpec.upto bsetLawsSpec)) bsetLawsUptoCard

/-- THE SECOND FORM's CARD OF 'raddlelaw01.BsetBytes'. -/
def bsetBytesUptoCard : Claim7 := { stood := { row := bsetBytesUptoRow, standIns := [], harness := (true, "e76e61662a0575a74b4bf3577d6e05d5e8b856dabaddd1105dd94ebd9a624e5f"), looks := false }, kinds := [], alts := [], laidByText := true, laidKinds := [.data], laidTests := true, laidLooks := .later }
def BsetBytesUptoCardSaid : Prop := Claim7.holds Tryd.pinned (.plain (OpenSpec.upto bsetBytesSpec)) bsetBytesUptoCard
end Rows
end Go.Proofs.YtjgldamcldbbfaaDoor
