/-
  DERIVED. GIVEN WITH THE SEED: THE CARDS: each row of YtcmfaclkgdmpbaaGreatDoorRows.lean that lists a variable, with what it lists TIED to the program's text (the seventh form; the later family's looks); each row that meets fmt, with fmt's text TOLD by the authors' own Lean function (tested against real Go, not proved from fmt's source: count such statements apart). THE CARD IS WHAT COUNTS. Prove the row's statement (the work); the ties are given (YtcmfaclkgdmpbaaGreatDoorTie.lean); close each card by the builder's one call (the guide's Derived/Test/ToyasCard.lean, 'card_holds'). Laid BY PROGRAM, IN A SANDBOX (cutbox-door.mjs). By AI agents, Wed Nov 11 2026. No macro, syntax, notation, axiom, sorry.
-/
import Derived.Test.YtcmfaclkgdmpbaaGreatDoorRows
import GoSem.ClaimSeven
namespace Go.Proofs.YtcmfaclkgdmpbaaGreatDoor
namespace Rows

/-- THE TIED CARD OF 'raddlelaw12.TrimTells'. -/
def trimTellsCard : Claim7 := { stood := { row := trimTellsRow, standIns := [], harness := (true, "f16aef468eda9596b0e1c36e5d6d831041177148b627a83f527ca87b555b2e29"), looks := false }, kinds := [], alts := [], laidByText := true, laidKinds := [.data, .data, .data], laidTests := true, laidLooks := .later }
def TrimTellsCardSaid : Prop := Claim7.holds Tryz.pinned (.plain (OpenSpec.ofChange trimTellsSpec)) trimTellsCard

/-- THE TIED CARD OF 'raddlelaw12.TrimTwice'. -/
def trimTwiceCard : Claim7 := { stood := { row := trimTwiceRow, standIns := [], harness := (true, "f16aef468eda9596b0e1c36e5d6d831041177148b627a83f527ca87b555b2e29"), looks := false }, kinds := [], alts := [], laidByText := true, laidKinds := [.data, .data, .data], laidTests := true, laidLooks := .later }
def TrimTwiceCardSaid : Prop := Claim7.holds Tryz.pinned (.plain (OpenSpec.ofChange trimTwiceSpec)) trimTwiceCard

/-- THE TIED CARD OF 'raddlelaw12.TrimSame'. -/
def trimSameCard : Claim7 := { stood := { row := trimSameRow, standIns := [], harness := (true, "f16aef468eda9596b0e1c36e5d6d831041177148b627a83f527ca87b555b2e29"), looks := false }, kinds := [], alts := [], laidByText := true, laidKinds := [.data, .data, .data], laidTests := true, laidLooks := .later }
def TrimSameCardSaid : Prop := Claim7.holds Tryz.pinned (.plain (OpenSpec.ofChange trimSameSpec)) trimSameCard

/-- THE TIED CARD OF 'raddlelaw12.TrimWays'. -/
def trimWaysCard : Claim7 := { stood := { row := trimWaysRow, standIns := [], harness := (true, "f16aef468eda9596b0e1c36e5d6d831041177148b627a83f527ca87b555b2e29"), looks := false }, kinds := [], alts := [], laidByText := true, laidKinds := [.data, .data, .data], laidTests := true, laidLooks := .later }
def TrimWaysCardSaid : Prop := Claim7.holds Tryz.pinned (.plain (OpenSpec.ofChange trimWaysSpec)) trimWaysCard

/-- THE TIED CARD OF 'raddlelaw12.TrimLive'. -/
def trimLiveCard : Claim7 := { stood := { row := trimLiveRow, standIns := [], harness := (true, "f16aef468eda9596b0e1c36e5d6d831041177148b627a83f527ca87b555b2e29"), looks := false }, kinds := [], alts := [], laidByText := true, laidKinds := [.data, .data, .data], laidTests := true, laidLooks := .later }
def TrimLiveCardSaid : Prop := Claim7.holds Tryz.pinned (.plain (OpenSpec.ofChange trimLiveSpec)) trimLiveCard

/-- THE TIED CARD OF 'raddlelaw12.TrimPlain'. -/
def trimPlainCard : Claim7 := { stood := { row := trimPlainRow, standIns := [], harness := (true, "f16aef468eda9596b0e1c36e5d6d831041177148b627a83f527ca87b555b2e29"), looks := false }, kinds := [], alts := [], laidByText := true, laidKinds := [.data, .data, .data], laidTests := true, laidLooks := .later }
def TrimPlainCardSaid : Prop := Claim7.holds Tryz.pinned (.plain (OpenSpec.ofChange trimPlainSpec)) trimPlainCard

/-- THE SECOND FORM's CARD OF 'raddlelaw12.TrimTells'. -/
def trimTellsUptoCard : Claim7 := { stood := { row := trimTellsUptoRow, standIns := [], harness := (true, "f16aef468eda9596b0e1c36e5d6d831041177148b627a83f527ca87b555b2e29"), looks := false }, kinds := [], alts := [], laidByText := true, laidKinds := [.data, .data, .data], laidTests := true, laidLooks := .later }
def TrimTellsUptoCardSaid : Prop := Claim7.holds Tryz.pinned (.plain (OpenSpec.upto trimTellsSpec)) trimTellsUptoCard

/-- THE SECOND FORM's CARD OF 'raddlelaw12.TrimTwice'. -/
def trimTwiceUptoCard : Claim7 := { stood := { row := trimTwiceUptoRow, standIns := [], harness := (true, "f16aef468eda9596b0e1c36e5d6d831041177148b627a83f527ca87b555b2e29"), looks := false }, kinds := [], alts := [], laidByText := true, laidKinds := [.data, .data, .data], laidTests := true, laidLooks := .later }
def TrimTwiceUptoCardSaid : Prop := Claim7.holds Tryz.pinned (.plain (OpenSpec.upto trimTwiceSpec)) trimTwiceUptoCard

/-- THE SECOND FORM's CARD OF 'raddlelaw12.TrimSame'. -/
def trimSameUptoCard : Claim7 := { stood := { row := trimSameUptoRow, standIns := [], harness := (true, "f16aef468eda9596b0e1c36e5d6d831041177148b627a83f527ca87b555b2e29"), looks := false }, kinds := [], alts := [], laidByText := true, laidKinds := [.data, .data, .data], laidTests := true, laidLooks := .later }
def TrimSameUptoCardSaid : Prop := Claim7.holds Tryz.pinned (.plain (OpenSpec.upto trimSameSpec)) trimSameUptoCard

/-- THE SECOND FORM's CARD OF 'raddlelaw12.TrimWays'. -/
def trimWaysUptoCard : Claim7 := { stood := { row := trimWaysUptoRow, standIns := [], harness := (true, "f16aef468eda9596b0e1c36e5d6d831041177148b627a83f527ca87b555b2e29"), looks := false }, kinds := [], alts := [], laidByText := true, laidKinds := [.data, .data, .data], laidTests := true, laidLooks := .later }
def TrimWaysUptoCardSaid : Prop := Claim7.holds Tryz.pinned (.plain (OpenSpec.upto trimWaysSpec)) trimWaysUptoCard

/-- THE SECOND FORM's CARD OF 'raddlelaw12.TrimLive'. -/
def trimLiveUptoCard : Claim7 := { stood := { row := trimLiveUptoRow, standIns := [], harness := (true, "f16aef468eda9596b0e1c36e5d6d831041177148b627a83f527ca87b555b2e29"), looks := false }, kinds := [], alts := [], laidByText := true, laidKinds := [.data, .data, .data], laidTests := true, laidLooks := .later }
def TrimLiveUptoCardSaid : Prop := Claim7.holds Tryz.pinned (.plain (OpenSpec.upto trimLiveSpec)) trimLiveUptoCard

/-- THE SECOND FORM's CARD OF 'raddlelaw12.TrimPlain'. -/
def trimPlainUptoCard : Claim7 := { stood := { row := trimPlainUptoRow, standIns := [], harness := (true, "f16aef468eda9596b0e1c36e5d6d831041177148b627a83f527ca87b555b2e29"), looks := false }, kinds := [], alts := [], laidByText := true, laidKinds := [.data, .data, .data], laidTests := true, laidLooks := .later }
def TrimPlainUptoCardSaid : Prop := Claim7.holds Tryz.pinned (.plain (OpenSpec.upto trimPlainSpec)) trimPlainUptoCard
end Rows
end Go.Proofs.YtcmfaclkgdmpbaaGreatDoor
