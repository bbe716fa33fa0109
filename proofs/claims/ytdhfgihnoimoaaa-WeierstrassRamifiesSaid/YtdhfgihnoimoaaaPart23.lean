/- A part of the proof. -/
import Derived.Test.YtdhfgihnoimoaaaPart19
import Derived.Test.YtdhfgihnoimoaaaLayerC
set_option linter.all false
set_option maxHeartbeats 4000000
set_option maxRecDepth 100000
namespace Go.Proofs.Ytdhfgihnoimoaaa
open Go.Sp
def ATf (L:List (Nat×Nat)):List (List Int):=(List.range 12).map fun v=>zI (atV L v)
theorem B8t (L:List (Nat×Nat)):(ATf L).length=12:=by simp [ATf]
theorem B8u (T:List Nat) (x:Nat):zI T++[(x:Int)]=zI (T++[x]):=by simp [zI]
end Go.Proofs.Ytdhfgihnoimoaaa
