/- A part of the proof. -/
import Derived.Test.YtdhfgihnoimoaaaPart10
import Derived.Test.YtdhfgihnoimoaaaPart07
import Derived.Test.YtdhfgihnoimoaaaPart08
import Derived.Test.YtdhfgihnoimoaaaLayerC
import Derived.Test.YtdhfgihnoimoaaaLayerD
set_option linter.all false
set_option maxHeartbeats 4000000
set_option maxRecDepth 100000
namespace Go.Proofs.Ytdhfgihnoimoaaa
open Go.Sp
def B8l (most:Int) (x:E):List E:=if x.a=x.b then [] else [⟨x.a,x.b,min x.m most⟩]
def B21 (most:Int) (es:List E):List E:=es.flatMap (B8l most)
theorem B4Q {most:Int} {es:List E} {i:Nat} (h:i<es.length):B21 most (es.take (i+1))=B21 most (es.take i)++B8l most es[i]:=by
 rw [List.take_succ_eq_append_getElem h]; simp only [B21,List.flatMap_append,List.flatMap_cons,List.flatMap_nil,List.append_nil]
theorem B6A (most:Int) (es:List E):(B21 most es).length≤es.length:=by
 induction es with
 | nil=>simp [B21]
 | cons x xs ih=>
  simp only [B21,List.flatMap_cons,List.length_append,List.length_cons] at ih ⊢
  have:(B8l most x).length≤1:=by unfold B8l; split<;>simp
  omega
def B8m (g:G) (most:Int):G:=if checkG g≠0 then ⟨0,[]⟩ else ⟨g.n,B21 most g.es⟩
theorem B31 (g:G) (most:Int) (hl:g.es.length<2^20):ACall Try.prog 76 [tG g,A0j most] (.tup [tG (B8m g most),A0j (checkG g)]):=by
 have hC:=A6V g (by omega)
 refine ACall.of_body Try.func76 rfl (by kernel_rfl) ?_
 simp only [entry,Try.ntmps76,tG,A0j]
 refine zU ?_
 by_cases hc:checkG g=0
 case neg=>
  have e:B8m g most=⟨0,[]⟩:=if_pos hc
  generalize checkG g=E at*
  refine zR (zc @hc trivial) (zc hC trivial) trivial ?_
  simp [A0J,A0I,Blk.cells,ty,Try.results76,A05,A08,toT,A0e,A0c,A0d,A0a,A0j,tG,e,A0b]
 rw [hc] at hC ⊢
 have e:B8m g most=⟨g.n,B21 most g.es⟩:=if_neg (by omega)
 refine zR (zc @A0u trivial) (zc hC trivial) trivial ?_
 refine AWp.weak (A0r.openB 2 1 3 rfl rfl (by omega)) ?_
 simp only [List.set_cons_succ,List.set_cons_zero,List.length_cons,List.length_nil,List.length_append,Nat.reduceAdd,List.cons_append,List.nil_append]
 refine AWp.loopS (α:=Nat) 44 (fun i=>[(1,.c (.int .i64 most)),(2,.c (.ptr 0 0)),(4,.c (.ptr 1 0)),(5,.c (.int .i64 0)),(7,.c (.ptr 2 0)),(20,.c (.slice (A0b g.es) .none)),(21,.c (.int .i64 g.es.length)),(22,.c (.int .i64 (i:Int)))]) (fun i=>[.box [.int .i64 g.n,.slice (A0b g.es) .none],.box [.int .i64 0,.nils],.box [.int .i64 g.n,.slice (A0b (B21 most (g.es.take i))) (.chain 3)],.chain (B21 most (g.es.take i)).length 3]) (fun i=>i≤g.es.length) (fun i=>g.es.length-i) (0) (hk:=A0r.headL 4 44 [1,2,4,5,7,20,21,22] zW) (h0:=?_) (round:=fun i hI=>?_)
 ·exact Nat.zero_le _
 ·have hi:i≤g.es.length:=hI
  clear hI
  by_cases hlt:i<g.es.length
  ·have e1:=A1A (List.getElem?_eq_getElem hlt)
   have hnx:=B4Q (most:=most) hlt
   have hbl:=B6A most (g.es.take i)
   rw [List.length_take] at hbl
   generalize B21 most (g.es.take i)=d at*
   generalize g.es[i]=x at*
   by_cases hx:x.a=x.b
   ·have e2:B8l most x=[]:=if_pos hx
    rw [e2,List.append_nil] at hnx
    refine zR (zc @e1 (zc @hx (zc @Int.ofNat_lt trivial))) trivial trivial ?_
    refine ⟨i+1,A0r.headF 4 44 [1,2,4,5,7,20,21,22] (zc @hnx trivial) zW,?_,?_⟩
    ·exact hlt
    ·omega
   ·have e2:B8l most x=[⟨x.a,x.b,min x.m most⟩]:=if_neg hx
    rw [e2] at hnx
    have hsn:=B3u d ⟨x.a,x.b,min x.m most⟩
    refine zRc (zc @e1 (zc @hx (zc @Int.ofNat_lt (zc @A0u (zc @hsn trivial))))) trivial @B62 ?_
    refine ⟨i+1,A0r.headF 4 44 [1,2,4,5,7,20,21,22] (zc @hnx trivial) zW,?_,?_⟩
    ·exact hlt
    ·omega
  ·have ei:i=g.es.length:=by omega
   subst ei
   rw [List.take_length]
   refine zR (zc @Int.ofNat_lt trivial) trivial trivial ?_
   simp [A0J,A0I,Blk.cells,ty,Try.results76,A05,A08,toT,A0e,A0c,A0d,A0a,A0j,tG,e]
theorem A7Q (g:G) (hl:g.es.length<2^20):ACall Try.prog 58 [tG g] (.tup [tG (B8m g 50),A0j (checkG g)]):=by
 have h:=B31 g 50 hl
 refine ACall.of_body Try.func58 rfl (by kernel_rfl) ?_
 simp only [entry,Try.ntmps58,tG]
 refine zU ?_
 refine zR trivial (zc h trivial) trivial ?_
 simp [A0J,A0I,Blk.cells,ty,Try.results58,A05,A08,toT,A0e,A0c,A0d,A0a,A0j,tG]
end Go.Proofs.Ytdhfgihnoimoaaa
