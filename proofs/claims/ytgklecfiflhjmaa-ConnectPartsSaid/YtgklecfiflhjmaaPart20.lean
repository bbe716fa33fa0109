/- A part of the proof. -/
import Derived.Test.YtgklecfiflhjmaaPart19
set_option linter.all false
set_option maxHeartbeats 4000000
set_option maxRecDepth 100000
namespace Go.Proofs.Ytgklecfiflhjmaa
open Go.Sp
structure RightG (g : G) (n : Nat) : Prop where
 c : checkG g = 0
 nn : g.n = n
 n1 : 1 ≤ n
 n12 : n ≤ 12
 l : g.es.length ≤ 40
 s : (endsL g.es).length ≤ 400
end Go.Proofs.Ytgklecfiflhjmaa
