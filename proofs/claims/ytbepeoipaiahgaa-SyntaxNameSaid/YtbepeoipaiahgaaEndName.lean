/- A name in braces is a Ref just if it is a name: the program's law SyntaxName answers true for every text, and leaves it as it reads. Conditions: those of the given row. -/
import Derived.Test.YtbepeoipaiahgaaRowName
import Derived.Test.YtbepeoipaiahgaaRpST
namespace Go.Proofs.Ytbepeoipaiahgaa
open Go Go.Rv

theorem syntaxName_true : Rows.SyntaxNameSaid :=
  syntaxName_holds fun s _ => Name_plain s
#print axioms syntaxName_true
end Go.Proofs.Ytbepeoipaiahgaa
