/- A part of the proof. -/
import Derived.Test.YtdbdfkohpjefjaaGreatPart07
import Derived.Test.YtdbdfkohpjefjaaGreatPart06
set_option linter.all false
set_option maxHeartbeats 4000000
set_option maxRecDepth 100000
namespace Go.Proofs.YtdbdfkohpjefjaaGreat
open Go.Sp
theorem B2U (pre mid post new:List ACell) (h:new.length=mid.length):setMany (pre++mid++post) pre.length new=pre++new++post:=by
 apply XZ;intro i;rw [A2b _ _ _ _ (by simp; omega)];by_cases h1:i<pre.length
 ·rw [if_neg (by omega),Zv,Zv,Qv h1,Qv h1]
 ·by_cases h2:i<pre.length+new.length
  ·rw [if_pos ⟨by omega,h2⟩,Zv,QJ (by omega),Qv (by omega)]
  ·rw [if_neg (by omega),QJ (by simp; omega),QJ (l₁:=pre++new) (by simp; omega)];simp [h]
theorem A6J (l:List Int):flatRows (A0o l)=iC l:=by
 unfold flatRows A0o iC
 induction l with
 | nil=>rfl
 | cons x l ih=>simp only [Xy,List.flatten_cons,WW,ih]; rfl
theorem B1B (a b:List Int):iC (a++b)=iC a++iC b:=by simp [iC]
theorem B7s (n:Nat) (x:Int):iC (List.replicate n x)=List.replicate n (.int .i64 x):=by simp [iC]
def ltP (x:E) (a b:Int):Prop:=x.a<a∨(x.a=a∧x.b<b)
instance ltP.dec (x:E) (a b:Int):Decidable (ltP x a b):=by unfold ltP; infer_instance
def C0a (l:List Int):Nat->List Int
 | 0=>l
 | i+1=>((C0a l i).set i ((C0a l i)[l.length-1-i]?.getD 0)).set (l.length-1-i) ((C0a l i)[i]?.getD 0)
@[simp] theorem C2Z (l:List Int):C0a l 0=l:=rfl
theorem A5Z {m:Nat} {pre:List Blk} {B:List Int} (hpre: ∀b,b∈pre->blkIn (pre.length+1) b) (hm:m=pre.length+1:=by rfl):A1z m (pre++[.box (iC B)]):=by
 subst hm;intro b hb;rcases XW.1 hb with hb | hb
 ·exact hpre b hb
 ·obtain rfl:=Zz.1 hb;exact A1g
@[simp] theorem C4k (pre:List Blk) (X:Blk):(pre++[X]).take (pre.length+1)=pre++[X]:=ZX (by simp)
end Go.Proofs.YtdbdfkohpjefjaaGreat
