/- A part of the proof: contracts of functions of the program, and plain lemmas. -/
import Derived.Test.YtfkegnhpihoncaaGreatPart19
set_option linter.all false
namespace Go.Proofs.YtfkegnhpihoncaaGreat
open Go.Sp
set_option linter.unusedSimpArgs false
set_option linter.unusedVariables false
set_option maxHeartbeats 4000000
set_option maxRecDepth 100000
def rightB (g : G) : Bool := lightB g && decide (checkG g = 0)
structure RightG (g : G) (n : Nat) : Prop where
 c : checkG g = 0
 nn : g.n = n
 n1 : 1 ≤ n
 n12 : n ≤ 12
 l : g.es.length ≤ 40
 s : (endsL g.es).length ≤ 400
end Go.Proofs.YtfkegnhpihoncaaGreat
