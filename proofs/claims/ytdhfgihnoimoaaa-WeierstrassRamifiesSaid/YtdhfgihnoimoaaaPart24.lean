/- A part of the proof. -/
import Derived.Test.YtdhfgihnoimoaaaPart19
import Derived.Test.YtdhfgihnoimoaaaPart01
import Derived.Test.YtdhfgihnoimoaaaPart02
import Derived.Test.YtdhfgihnoimoaaaLayerD
import Derived.Test.YtdhfgihnoimoaaaLayerC
set_option linter.all false
set_option maxHeartbeats 4000000
set_option maxRecDepth 100000
namespace Go.Proofs.Ytdhfgihnoimoaaa
open Go.Sp Go.RowKit
open Go.Sort (SWO)
set_option maxHeartbeats 1000000
end Go.Proofs.Ytdhfgihnoimoaaa
namespace Go.Proofs.Ytdhfgihnoimoaaa
open Go.Sp
end Go.Proofs.Ytdhfgihnoimoaaa
