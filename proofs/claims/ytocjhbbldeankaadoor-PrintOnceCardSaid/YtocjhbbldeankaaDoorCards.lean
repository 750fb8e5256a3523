/-
  DERIVED. GIVEN WITH THE SEED: THE CARDS: each row of YtocjhbbldeankaaDoorRows.lean that lists a variable, with what it lists TIED to the program's text (the seventh form; the later family's looks); each row that meets fmt, with fmt's text TOLD by the authors' own Lean function (tested against real Go, not proved from fmt's source: count such statements apart). THE CARD IS WHAT COUNTS. Prove the row's statement (the work); the ties are given (YtocjhbbldeankaaDoorTie.lean); close each card by the builder's one call (the guide's Derived/Test/ToyasCard.lean, 'card_holds'). Laid BY PROGRAM, IN A SANDBOX (cutbox-door.mjs). By AI agents, Wed Nov 11 2026. No macro, syntax, notation, axiom, sorry.
-/
import Derived.Test.YtocjhbbldeankaaDoorRows
import GoSem.ClaimSeven
namespace Go.Proofs.YtocjhbbldeankaaDoor
namespace Rows

/-- THE TIED CARD OF 'raddlelaw05.PrintTells'. -/
def printTellsCard : Claim7 := { stood := { row := printTellsRow, standIns := [], harness := (true, "bd037feb8679b4a783cc0d17873ff0e20c0e55b93c6138e93fd7d0f0a963a03b"), looks := false }, kinds := [], alts := [], laidByText := true, laidKinds := [.data, .data, .data], laidTests := true, laidLooks := .later }
def PrintTellsCardSaid : Prop := Claim7.holds Tryd.pinned (.plain (OpenSpec.ofChange printTellsSpec)) printTellsCard

/-- THE TIED CARD OF 'raddlelaw05.PrintBytes'. -/
def printBytesCard : Claim7 := { stood := { row := printBytesRow, standIns := [], harness := (true, "bd037feb8679b4a783cc0d17873ff0e20c0e55b93c6138e93fd7d0f0a963a03b"), looks := false }, kinds := [], alts := [], laidByText := true, laidKinds := [.data, .data, .data], laidTests := true, laidLooks := .later }
def PrintBytesCardSaid : Prop := Claim7.holds Tryd.pinned (.plain (OpenSpec.ofChange printBytesSpec)) printBytesCard

/-- THE TIED CARD OF 'raddlelaw05.PrintBack'. -/
def printBackCard : Claim7 := { stood := { row := printBackRow, standIns := [], harness := (true, "bd037feb8679b4a783cc0d17873ff0e20c0e55b93c6138e93fd7d0f0a963a03b"), looks := false }, kinds := [], alts := [], laidByText := true, laidKinds := [.data, .data, .data], laidTests := true, laidLooks := .later }
def PrintBackCardSaid : Prop := Claim7.holds Tryd.pinned (.plain (OpenSpec.ofChange printBackSpec)) printBackCard

/-- THE TIED CARD OF 'raddlelaw05.PrintOnce'. -/
def printOnceCard : Claim7 := { stood := { row := printOnceRow, standIns := [], harness := (true, "bd037feb8679b4a783cc0d17873ff0e20c0e55b93c6138e93fd7d0f0a963a03b"), looks := false }, kinds := [], alts := [], laidByText := true, laidKinds := [.data, .data, .data], laidTests := true, laidLooks := .later }
def PrintOnceCardSaid : Prop := Claim7.holds Tryd.pinned (.plain (OpenSpec.ofChange printOnceSpec)) printOnceCard

/-- THE TIED CARD OF 'raddlelaw05.PrintSets'. -/
def printSetsCard : Claim7 := { stood := { row := printSetsRow, standIns := [], harness := (true, "bd037feb8679b4a783cc0d17873ff0e20c0e55b93c6138e93fd7d0f0a963a03b"), looks := false }, kinds := [], alts := [], laidByText := true, laidKinds := [.data, .data, .data], laidTests := true, laidLooks := .later }
def PrintSetsCardSaid : Prop := Claim7.holds Tryd.pinned (.plain (OpenSpec.ofChange printSetsSpec)) printSetsCard

/-- THE TIED CARD OF 'raddlelaw05.PrintTimes'. -/
def printTimesCard : Claim7 := { stood := { row := printTimesRow, standIns := [], harness := (true, "bd037feb8679b4a783cc0d17873ff0e20c0e55b93c6138e93fd7d0f0a963a03b"), looks := false }, kinds := [], alts := [], laidByText := true, laidKinds := [.data, .data, .data], laidTests := true, laidLooks := .later }
def PrintTimesCardSaid : Prop := Claim7.holds Tryd.pinned (.plain (OpenSpec.ofChange printTimesSpec)) printTimesCard

/-- THE SECOND FORM's CARD OF 'raddlelaw05.PrintTells'. -/
def printTellsUptoCard : Claim7 := { stood := { row := printTellsUptoRow, standIns := [], harness := (true, "bd037feb8679b4a783cc0d17873ff0e20c0e55b93c6138e93fd7d0f0a963a03b"), looks := false }, kinds := [], alts := [], laidByText := true, laidKinds := [.data, .data, .data], laidTests := true, laidLooks := .later }
def PrintTellsUptoCardSaid : Prop := Claim7.holds Tryd.pinned (.plain (OpenSpec.upto printTellsSpec)) printTellsUptoCard

/-- THE SECOND FORM's CARD OF 'raddlelaw05.PrintBytes'. -/
def printBytesUptoCard : Claim7 := { stood := { row := printBytesUptoRow, standIns := [], harness := (true, "bd037feb8679b4a783cc0d17873ff0e20c0e55b93c6138e93fd7d0f0a963a03b"), looks := false }, kinds := [], alts := [], laidByText := true, laidKinds := [.data, .data, .data], laidTests := true, laidLooks := .later }
def PrintBytesUptoCardSaid : Prop := Claim7.holds Tryd.pinned (.plain (OpenSpec.upto printBytesSpec)) printBytesUptoCard

/-- THE SECOND FORM's CARD OF 'raddlelaw05.PrintBack'. -/
def printBackUptoCard : Claim7 := { stood := { row := printBackUptoRow, standIns := [], harness := (true, "bd037feb8679b4a783cc0d17873ff0e20c0e55b93c6138e93fd7d0f0a963a03b"), looks := false }, kinds := [], alts := [], laidByText := true, laidKinds := [.data, .data, .data], laidTests := true, laidLooks := .later }
def PrintBackUptoCardSaid : Prop := Claim7.holds Tryd.pinned (.plain (OpenSpec.upto printBackSpec)) printBackUptoCard

/-- THE SECOND FORM's CARD OF 'raddlelaw05.PrintOnce'. -/
def printOnceUptoCard : Claim7 := { stood := { row := printOnceUptoRow, standIns := [], harness := (true, "bd037feb8679b4a783cc0d17873ff0e20c0e55b93c6138e93fd7d0f0a963a03b"), looks := false }, kinds := [], alts := [], laidByText := true, laidKinds := [.data, .data, .data], laidTests := true, laidLooks := .later }
def PrintOnceUptoCardSaid : Prop := Claim7.holds Tryd.pinned (.plain (OpenSpec.upto printOnceSpec)) printOnceUptoCard

/-- THE SECOND FORM's CARD OF 'raddlelaw05.PrintSets'. -/
def printSetsUptoCard : Claim7 := { stood := { row := printSetsUptoRow, standIns := [], harness := (true, "bd037feb8679b4a783cc0d17873ff0e20c0e55b93c6138e93fd7d0f0a963a03b"), looks := false }, kinds := [], alts := [], laidByText := true, laidKinds := [.data, .data, .data], laidTests := true, laidLooks := .later }
def PrintSetsUptoCardSaid : Prop := Claim7.holds Tryd.pinned (.plain (OpenSpec.upto printSetsSpec)) printSetsUptoCard

/-- THE SECOND FORM's CARD OF 'raddlelaw05.PrintTimes'. -/
def printTimesUptoCard : Claim7 := { stood := { row := printTimesUptoRow, standIns := [], harness := (true, "bd037feb8679b4a783cc0d17873ff0e20c0e55b93c6138e93fd7d0f0a963a03b"), looks := false }, kinds := [], alts := [], laidByText := true, laidKinds := [.data, .data, .data], laidTests := true, laidLooks := .later }
def PrintTimesUptoCardSaid : Prop := Claim7.holds Tryd.pinned (.plain (OpenSpec.upto printTimesSpec)) printTimesUptoCard
end Rows
end Go.Proofs.YtocjhbbldeankaaDoor
