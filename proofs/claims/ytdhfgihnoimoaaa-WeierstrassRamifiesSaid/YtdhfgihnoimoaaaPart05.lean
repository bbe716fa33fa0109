/- A part of the proof. -/
import Derived.Test.YtdhfgihnoimoaaaPart01
import Derived.Test.YtdhfgihnoimoaaaLayerC
set_option linter.all false
set_option maxHeartbeats 4000000
set_option maxRecDepth 100000
namespace Go.Proofs.Ytdhfgihnoimoaaa
open Go.Sp
theorem B4I:KeyLaw Try.prog 3 .int:=B3k Try.underlying3
end Go.Proofs.Ytdhfgihnoimoaaa
