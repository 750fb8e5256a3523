/- A pattern in parentheses is the same tree, and its error the same, one place further on: the program's law SyntaxGroup answers true for every text, and leaves it as it reads. Conditions: those of the given row. -/
import Derived.Test.YtbepeoipaiahgaaRowGroup
import Derived.Test.YtbepeoipaiahgaaRpSW
namespace Go.Proofs.Ytbepeoipaiahgaa
open Go Go.Rv

theorem syntaxGroup_true : Rows.SyntaxGroupSaid :=
  syntaxGroup_holds fun s _ => Group_plain s
#print axioms syntaxGroup_true
end Go.Proofs.Ytbepeoipaiahgaa
