/- A row of letters and digits is a Cat of them, with bars an Alt: the program's law SyntaxLetters answers true for all bytes, and leaves them as they read. Conditions: those of the given row. -/
import Derived.Test.YtbepeoipaiahgaaRowLetters
import Derived.Test.YtbepeoipaiahgaaRpSU
namespace Go.Proofs.Ytbepeoipaiahgaa
open Go Go.Rv

theorem syntaxLetters_true : Rows.SyntaxLettersSaid :=
  syntaxLetters_holds fun b hb => Letters_plain b fun c hc => wf_u8 (hb.2 c hc)
#print axioms syntaxLetters_true
end Go.Proofs.Ytbepeoipaiahgaa
