/- A part of the proof. -/
import Derived.Test.YtdbdfkohpjefjaaGreatPart10
set_option linter.all false
set_option maxHeartbeats 4000000
set_option maxRecDepth 100000
namespace Go.Proofs.YtdbdfkohpjefjaaGreat
open Go.Sp
end Go.Proofs.YtdbdfkohpjefjaaGreat
