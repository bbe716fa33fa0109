/- A part of the proof. -/
import Derived.Test.YtdhfgihnoimoaaaPart19
import Derived.Test.YtdhfgihnoimoaaaPart17
import Derived.Test.YtdhfgihnoimoaaaPart16
import Derived.Test.YtdhfgihnoimoaaaPart08
import Derived.Test.YtdhfgihnoimoaaaPart18
import Derived.Test.YtdhfgihnoimoaaaPart05
import Derived.Test.YtdhfgihnoimoaaaPart06
import Derived.Test.YtdhfgihnoimoaaaPart12
import Derived.Test.YtdhfgihnoimoaaaLayerC
set_option linter.all false
set_option maxHeartbeats 4000000
set_option maxRecDepth 100000
namespace Go.Proofs.Ytdhfgihnoimoaaa
open Go.Sp
theorem getD_bool {R : List Bool} {i : Nat} (h : i < R.length) : R[i]? = some (R.getD i false) := by
 rw [List.getD_eq_getElem?_getD, List.getElem?_eq_getElem h]; rfl
end Go.Proofs.Ytdhfgihnoimoaaa
