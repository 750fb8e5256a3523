/- Whether nodes are a tree is the document's: the program's law SyntaxRights answers true for every list of nodes, and leaves it as it reads. Conditions: those of the given row. -/
import Derived.Test.YtbepeoipaiahgaaRowRights
import Derived.Test.YtbepeoipaiahgaaRpSS
namespace Go.Proofs.Ytbepeoipaiahgaa
open Go Go.Rv

theorem syntaxRights_true : Rows.SyntaxRightsSaid :=
  syntaxRights_holds fun l hl => Rights_plain l fun n hn => ⟨(hl.2 n hn).2.2.2.2.2, (hl.2 n hn).2.2.1.1⟩
#print axioms syntaxRights_true
end Go.Proofs.Ytbepeoipaiahgaa
