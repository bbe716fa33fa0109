/- A part of the proof. -/
import Derived.Test.YtdhfgihnoimoaaaPart12
import Derived.Test.YtdhfgihnoimoaaaPart13
import Derived.Test.YtdhfgihnoimoaaaLayerC
import Derived.Test.YtdhfgihnoimoaaaPart10
import Derived.Test.YtdhfgihnoimoaaaPart11
set_option linter.all false
set_option maxHeartbeats 4000000
set_option maxRecDepth 100000
namespace Go.Proofs.Ytdhfgihnoimoaaa
open Go.Sp
theorem rootsN_filter (F : List Nat) (k : Nat) : rootsN F k = ((List.range k).filter fun v => decide (F[v]? = some v)).length := by
 induction k with
 | zero => rfl
 | succ k ih =>
  simp only [rootsN]
  rw [ih, List.range_succ, List.filter_append, List.length_append]
  by_cases h : F[k]? = some k <;> simp [h]
def okP (n : Int) (p : Int × Int) : Prop := (0 ≤ p.1 ∧ p.1 < n) ∧ (0 ≤ p.2 ∧ p.2 < n)
end Go.Proofs.Ytdhfgihnoimoaaa
