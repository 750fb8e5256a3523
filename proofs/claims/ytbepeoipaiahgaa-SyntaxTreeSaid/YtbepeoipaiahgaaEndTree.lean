/- What Parse tells of a text is a tree that may be, or an error at a place of the text or its end: the program's law SyntaxTree answers true for every text, and leaves it as it reads. Conditions: those of the given row. -/
import Derived.Test.YtbepeoipaiahgaaRowTree
import Derived.Test.YtbepeoipaiahgaaRpSQ
namespace Go.Proofs.Ytbepeoipaiahgaa
open Go Go.Rv

theorem syntaxTree_true : Rows.SyntaxTreeSaid :=
  syntaxTree_holds fun s _ => Tree_plain s
#print axioms syntaxTree_true
end Go.Proofs.Ytbepeoipaiahgaa
