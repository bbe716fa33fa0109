/- A part of the proof. -/
import Derived.Test.YtgklecfiflhjmaaPart18
import Derived.Test.YtgklecfiflhjmaaPart12
import Derived.Test.YtgklecfiflhjmaaPart14
import Derived.Test.YtgklecfiflhjmaaPart16
import Derived.Test.YtgklecfiflhjmaaLayerC
set_option linter.all false
set_option maxHeartbeats 4000000
set_option maxRecDepth 100000
namespace Go.Proofs.Ytgklecfiflhjmaa
open Go.Sp
instance ltE.dec : DecidableRel ltE := fun x y => by unfold ltE; infer_instance
def part : G := ⟨3, [⟨0, 1, 2⟩, ⟨0, 2, 1⟩]⟩
end Go.Proofs.Ytgklecfiflhjmaa
