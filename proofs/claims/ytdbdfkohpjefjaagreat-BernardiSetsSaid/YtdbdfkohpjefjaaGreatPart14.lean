/- A part of the proof. -/
import Derived.Test.YtdbdfkohpjefjaaGreatPart12
import Derived.Test.YtdbdfkohpjefjaaGreatPart11
set_option linter.all false
set_option maxHeartbeats 4000000
set_option maxRecDepth 100000
namespace Go.Proofs.YtdbdfkohpjefjaaGreat
open Go.Sp
def C5l (L:List (Int×Int)):List Int:=B7u L.length fun e=>(((List.range L.length).filter fun f=>decide (ltN L f e)).length:Int)
structure NOrd (L:List (Int×Int)) (zs:List Nat):Prop where
 p:zs.Perm (List.range L.length)
 s:zs.Pairwise (ltN L)
end Go.Proofs.YtdbdfkohpjefjaaGreat
