/- A part of the proof. -/
import Derived.Test.YtgklecfiflhjmaaPart24
import Derived.Test.YtgklecfiflhjmaaPart22
import Derived.Test.YtgklecfiflhjmaaLayerC
import Derived.Test.YtgklecfiflhjmaaPart20
import Derived.Test.YtgklecfiflhjmaaPart21
import Derived.Test.YtgklecfiflhjmaaPart19
set_option linter.all false
set_option maxHeartbeats 4000000
set_option maxRecDepth 100000
namespace Go.Proofs.Ytgklecfiflhjmaa
open Go.Sp
structure FewF (g : G) : Prop where
 es : g.es.length ≤ 40
 sz : checkG g = 0 → g.n ≤ 6 ∧ (endsL g.es).length ≤ 9
theorem few_of {g : G} (h : smallB g 6 9 = true) : FewF g := by
 unfold smallB at h
 simp only [Bool.and_eq_true, Bool.or_eq_true, decide_eq_true_eq] at h
 exact ⟨h.1, fun hc => by rcases h.2 with h2 | h2; exact absurd hc h2; exact ⟨h2.1, by omega⟩⟩
structure Rib (r : R) : Prop where
 ok : ROk r
 pos : 0 < (endsL r.es).length
 few : (endsL r.es).length ≤ 50
 fac : (facesR r).length ≤ 12
section
variable {r : R}
end
section
variable {r : R}
end
end Go.Proofs.Ytgklecfiflhjmaa
