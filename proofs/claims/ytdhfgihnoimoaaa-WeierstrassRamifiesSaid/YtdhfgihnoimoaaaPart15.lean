/- A part of the proof. -/
import Derived.Test.YtdhfgihnoimoaaaPart10
import Derived.Test.YtdhfgihnoimoaaaPart08
import Derived.Test.YtdhfgihnoimoaaaPart07
import Derived.Test.YtdhfgihnoimoaaaLayerC
import Derived.Test.YtdhfgihnoimoaaaLayerD
set_option linter.all false
set_option maxHeartbeats 4000000
set_option maxRecDepth 100000
namespace Go.Proofs.Ytdhfgihnoimoaaa
open Go.Sp
def B8j (most:Int) (x:E):List E:=if x.a=x.b then [] else [⟨x.a,x.b,min x.m most⟩]
def B28 (most:Int) (es:List E):List E:=es.flatMap (B8j most)
theorem B4X {most:Int} {es:List E} {i:Nat} (h:i<es.length):B28 most (es.take (i+1))=B28 most (es.take i)++B8j most es[i]:=by
 rw [List.take_succ_eq_append_getElem h]; simp only [B28,List.flatMap_append,List.flatMap_cons,List.flatMap_nil,List.append_nil]
theorem B6A (most:Int) (es:List E):(B28 most es).length≤es.length:=by
 induction es with
 | nil=>simp [B28]
 | cons x xs ih=>
  simp only [B28,List.flatMap_cons,List.length_append,List.length_cons] at ih ⊢
  have:(B8j most x).length≤1:=by unfold B8j; split<;>simp
  omega
def B8k (g:G) (most:Int):G:=if checkG g≠0 then ⟨0,[]⟩ else ⟨g.n,B28 most g.es⟩
theorem B33 (g:G) (most:Int) (hl:g.es.length<2^20):ACall Try.prog 76 [tG g,A0g most] (.tup [tG (B8k g most),A0g (checkG g)]):=by
 have hC:=A9q g (by omega)
 refine ACall.of_body Try.func76 rfl (by kernel_rfl) ?_
 simp only [entry,Try.ntmps76,tG,A0g]
 refine zU ?_
 by_cases hc:checkG g=0
 case neg=>
  have e:B8k g most=⟨0,[]⟩:=if_pos hc
  generalize checkG g=E at*
  refine zR (zc @hc trivial) (zc hC trivial) trivial ?_
  simp [A0E,A0C,Blk.cells,ty,Try.results76,A0y,A05,toT,A0e,A0c,A0d,A0a,A0g,tG,e,A0b]
 rw [hc] at hC ⊢
 have e:B8k g most=⟨g.n,B28 most g.es⟩:=if_neg (by omega)
 refine zR (zc @A06 trivial) (zc hC trivial) trivial ?_
 refine AWp.weak (A0s.openB 2 1 3 rfl rfl (by omega)) ?_
 simp only [List.set_cons_succ,List.set_cons_zero,List.length_cons,List.length_nil,List.length_append,Nat.reduceAdd,List.cons_append,List.nil_append]
 refine AWp.loopS (α:=Nat) 44 (fun i=>[(1,.c (.int .i64 most)),(2,.c (.ptr 0 0)),(4,.c (.ptr 1 0)),(5,.c (.int .i64 0)),(7,.c (.ptr 2 0)),(20,.c (.slice (A0b g.es) .none)),(21,.c (.int .i64 g.es.length)),(22,.c (.int .i64 (i:Int)))]) (fun i=>[.box [.int .i64 g.n,.slice (A0b g.es) .none],.box [.int .i64 0,.nils],.box [.int .i64 g.n,.slice (A0b (B28 most (g.es.take i))) (.chain 3)],.chain (B28 most (g.es.take i)).length 3]) (fun i=>i≤g.es.length) (fun i=>g.es.length-i) (0) (hk:=A0s.headL 4 44 [1,2,4,5,7,20,21,22] zW) (h0:=?_) (round:=fun i hI=>?_)
 ·exact Nat.zero_le _
 ·have hi:i≤g.es.length:=hI
  clear hI
  by_cases hlt:i<g.es.length
  ·have e1:=A2l (List.getElem?_eq_getElem hlt)
   have hnx:=B4X (most:=most) hlt
   have hbl:=B6A most (g.es.take i)
   rw [List.length_take] at hbl
   generalize B28 most (g.es.take i)=d at*
   generalize g.es[i]=x at*
   by_cases hx:x.a=x.b
   ·have e2:B8j most x=[]:=if_pos hx
    rw [e2,List.append_nil] at hnx
    refine zR (zc @e1 (zc @hx (zc @Int.ofNat_lt trivial))) trivial trivial ?_
    refine ⟨i+1,A0s.headF 4 44 [1,2,4,5,7,20,21,22] (zc @hnx trivial) zW,?_,?_⟩
    ·exact hlt
    ·omega
   ·have e2:B8j most x=[⟨x.a,x.b,min x.m most⟩]:=if_neg hx
    rw [e2] at hnx
    have hsn:=B3w d ⟨x.a,x.b,min x.m most⟩
    refine zRc (zc @e1 (zc @hx (zc @Int.ofNat_lt (zc @A06 (zc @hsn trivial))))) trivial @B6y ?_
    refine ⟨i+1,A0s.headF 4 44 [1,2,4,5,7,20,21,22] (zc @hnx trivial) zW,?_,?_⟩
    ·exact hlt
    ·omega
  ·have ei:i=g.es.length:=by omega
   subst ei
   rw [List.take_length]
   refine zR (zc @Int.ofNat_lt trivial) trivial trivial ?_
   simp [A0E,A0C,Blk.cells,ty,Try.results76,A0y,A05,toT,A0e,A0c,A0d,A0a,A0g,tG,e]
theorem A7T (g:G) (hl:g.es.length<2^20):ACall Try.prog 58 [tG g] (.tup [tG (B8k g 50),A0g (checkG g)]):=by
 have h:=B33 g 50 hl
 refine ACall.of_body Try.func58 rfl (by kernel_rfl) ?_
 simp only [entry,Try.ntmps58,tG]
 refine zU ?_
 refine zR trivial (zc h trivial) trivial ?_
 simp [A0E,A0C,Blk.cells,ty,Try.results58,A0y,A05,toT,A0e,A0c,A0d,A0a,A0g,tG]
end Go.Proofs.Ytdhfgihnoimoaaa
