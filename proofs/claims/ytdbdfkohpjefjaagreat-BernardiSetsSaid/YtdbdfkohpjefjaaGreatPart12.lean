/- A part of the proof. -/
import Derived.Test.YtdbdfkohpjefjaaGreatPart07
import Derived.Test.YtdbdfkohpjefjaaGreatPart06
set_option linter.all false
set_option maxHeartbeats 4000000
set_option maxRecDepth 100000
namespace Go.Proofs.YtdbdfkohpjefjaaGreat
open Go.Sp
def ltP (x:E) (a b:Int):Prop:=x.a<a∨(x.a=a∧x.b<b)
instance ltP.dec (x:E) (a b:Int):Decidable (ltP x a b):=by unfold ltP; infer_instance
def C0s (l:List Int):Nat->List Int
 | 0=>l
 | i+1=>((C0s l i).set i ((C0s l i)[l.length-1-i]?.getD 0)).set (l.length-1-i) ((C0s l i)[i]?.getD 0)
@[simp] theorem C3x (l:List Int):C0s l 0=l:=rfl
theorem A6c {m:Nat} {pre:List Blk} {B:List Int} (hpre: ∀b,b∈pre->blkIn (pre.length+1) b) (hm:m=pre.length+1:=by rfl):A1r m (pre++[.box (iC B)]):=by
 subst hm;intro b hb;rcases XZ.1 hb with hb | hb
 ·exact hpre b hb
 ·obtain rfl:=XJ.1 hb;exact A1d
@[simp] theorem C4C (pre:List Blk) (X:Blk):(pre++[X]).take (pre.length+1)=pre++[X]:=Zz (by simp)
end Go.Proofs.YtdbdfkohpjefjaaGreat
namespace Go.Proofs.YtdbdfkohpjefjaaGreat
open Go.Sp Go.RowKit
open Go.Sort (SWO)
def mnL (L:List (Int×Int)) (a:Nat):Int:=min (L.getD a (0,0)).1 (L.getD a (0,0)).2
def mxL (L:List (Int×Int)) (a:Nat):Int:=max (L.getD a (0,0)).1 (L.getD a (0,0)).2
def ltN (L:List (Int×Int)) (a b:Nat):Prop:=mnL L a<mnL L b∨(mnL L a=mnL L b∧(mxL L a<mxL L b∨(mxL L a=mxL L b∧a<b)))
instance ltN.dec (L:List (Int×Int)) (a b:Nat):Decidable (ltN L a b):=by unfold ltN; infer_instance
end Go.Proofs.YtdbdfkohpjefjaaGreat
