/- A part of the proof. -/
import Derived.Test.YtdhfgihnoimoaaaPart13
import Derived.Test.YtdhfgihnoimoaaaPart11
import Derived.Test.YtdhfgihnoimoaaaPart14
import Derived.Test.YtdhfgihnoimoaaaLayerC
import Derived.Test.YtdhfgihnoimoaaaPart10
set_option linter.all false
set_option maxHeartbeats 4000000
set_option maxRecDepth 100000
namespace Go.Proofs.Ytdhfgihnoimoaaa
open Go.Sp
def okP (n:Int) (p:Int×Int):Prop:=(0≤p.1∧p.1<n)∧(0≤p.2∧p.2<n)
instance (n:Int) (p:Int×Int):Decidable (okP n p):=by unfold okP; infer_instance
end Go.Proofs.Ytdhfgihnoimoaaa
