/- A part of the proof. -/
import Derived.Test.YtfkegnhpihoncaaGreatPart44
import Derived.Test.YtfkegnhpihoncaaGreatPart43
import Derived.Test.YtfkegnhpihoncaaGreatPart26
import Derived.Test.YtfkegnhpihoncaaGreatPart22
import Derived.Test.YtfkegnhpihoncaaGreatLayerD
import Derived.Test.YtfkegnhpihoncaaGreatLayerC
import Derived.Test.YtfkegnhpihoncaaGreatPart25
set_option linter.all false
set_option maxHeartbeats 4000000
set_option maxRecDepth 100000
namespace Go.Proofs.YtfkegnhpihoncaaGreat
open Go.Sp
end Go.Proofs.YtfkegnhpihoncaaGreat
