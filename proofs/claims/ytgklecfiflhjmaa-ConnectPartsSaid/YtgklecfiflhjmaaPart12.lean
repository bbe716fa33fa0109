/- A part of the proof. -/
import Derived.Test.YtgklecfiflhjmaaPart09
import Derived.Test.YtgklecfiflhjmaaPart11
import Derived.Test.YtgklecfiflhjmaaLayerC
set_option linter.all false
set_option maxHeartbeats 4000000
set_option maxRecDepth 100000
namespace Go.Proofs.Ytgklecfiflhjmaa
open Go.Sp
instance : DecidableEq E := fun x y => decidable_of_iff (x.a = y.a ∧ x.b = y.b ∧ x.m = y.m) (by cases x; cases y; simp)
def ltP (x : E) (a b : Int) : Prop := x.a < a ∨ (x.a = a ∧ x.b < b)
instance ltP.dec (x : E) (a b : Int) : Decidable (ltP x a b) := by unfold ltP; infer_instance
end Go.Proofs.Ytgklecfiflhjmaa
