/- A part of the proof. -/
import Derived.Test.YtdbdfkohpjefjaaGreatPart05
import Derived.Test.YtdbdfkohpjefjaaGreatPart04
set_option linter.all false
set_option maxHeartbeats 4000000
set_option maxRecDepth 100000
namespace Go.Proofs.YtdbdfkohpjefjaaGreat
section
open Go.Sp Go.RowKit
open Go.Sort (SWO)
def mnL (L:List (Int×Int)) (a:Nat):Int:=min (L.getD a (0,0)).1 (L.getD a (0,0)).2
def mxL (L:List (Int×Int)) (a:Nat):Int:=max (L.getD a (0,0)).1 (L.getD a (0,0)).2
def ltN (L:List (Int×Int)) (a b:Nat):Prop:=mnL L a<mnL L b∨(mnL L a=mnL L b∧(mxL L a<mxL L b∨(mxL L a=mxL L b∧a<b)))
instance ltN.dec (L:List (Int×Int)) (a b:Nat):Decidable (ltN L a b):=by unfold ltN; infer_instance
end
open Go.Sp
def C7Y (L:List (Int×Int)):List Int:=B9o L.length fun e=>(((List.range L.length).filter fun f=>decide (ltN L f e)).length:Int)
structure NOrd (L:List (Int×Int)) (zs:List Nat):Prop where
 p:zs.Perm (List.range L.length)
 s:zs.Pairwise (ltN L)
end Go.Proofs.YtdbdfkohpjefjaaGreat
