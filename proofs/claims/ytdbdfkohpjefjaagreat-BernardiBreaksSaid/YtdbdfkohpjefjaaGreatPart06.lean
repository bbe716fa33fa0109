/- A part of the proof. -/
import Derived.Test.YtdbdfkohpjefjaaGreatPart01
import Derived.Test.YtdbdfkohpjefjaaGreatLayerD
set_option linter.all false
set_option maxHeartbeats 4000000
set_option maxRecDepth 100000
namespace Go.Proofs.YtdbdfkohpjefjaaGreat
open Go.Sp
structure BS where
 time:Nat
 seen:List Nat
 low:List Nat
 opn:List Nat
 out:List (List Nat)
def atV (L:List (Nat×Nat)) (v:Nat):List Nat:=(List.range L.length).filter fun e=>let p:=L.getD e (0,0); decide (p.1≠p.2)&&(decide (p.1=v)||decide (p.2=v))
def enterB (v:Nat) (s:BS):BS:=⟨s.time+1,s.seen.set v (s.time+1),s.low.set v (s.time+1),s.opn,s.out⟩
def loopsB (L:List (Nat×Nat)):List (List Nat):=((List.range L.length).filter fun e=>let p:=L.getD e (0,0); decide (p.1=p.2)).map fun e=>[e]
def unseen (s:BS):Nat:=s.seen.count 0
structure BOK (E:Nat) (s:BS):Prop where
 ls:s.seen.length=12
 ll:s.low.length=12
 tm:s.time+unseen s=12
 sb: ∀x,x∈s.seen->x≤s.time
 lb: ∀x,x∈s.low->x≤s.time
 op: ∀e,e∈s.opn->e<E
def BLe (E:Nat) (K U:Int) (s:BS):Prop:=(s.opn.length:Int)≤K+E*s.time∧(s.out.length:Int)≤U+E*s.time
section
variable {E:Nat} {s:BS} {v w:Nat}
end
structure VisR (E:Nat) (K U:Int) (s s':BS):Prop where
 ok:BOK E s'
 le:BLe E K U s'
 tm:s.time≤s'.time
 keep: ∀w,s.seen.getD w 0≠0->s'.seen.getD w 0=s.seen.getD w 0
structure Mid (L:List (Nat×Nat)) (v:Nat) (K U:Int) (s:BS) (i:Nat) (si:BS):Prop where
 ok:BOK L.length si
 b1:(si.opn.length:Int)≤K+L.length*(si.time-1)+i
 b2:(si.out.length:Int)≤U+L.length*(si.time-1)+i
 tm:s.time+1≤si.time
 keep: ∀w,(enterB v s).seen.getD w 0≠0->si.seen.getD w 0=(enterB v s).seen.getD w 0
 seen:si.seen.getD v 0≠0
def xsb (f:Nat->Bool):Nat->Bool
 | 0=>false
 | k+1=>xor (xsb f k) (f k)
abbrev edL (L:List (Nat×Nat)) (e:Nat):Nat×Nat:=L.getD e (0,0)
def crs (L:List (Nat×Nat)) (S:Nat->Bool) (e:Nat):Bool:=xor (S (edL L e).1) (S (edL L e).2)
def cross (L:List (Nat×Nat)) (A S:Nat->Bool):Bool:=xsb (fun e=>A e&&crs L S e) L.length
def EvenA (L:List (Nat×Nat)) (A:Nat->Bool):Prop:= ∀S,cross L A S=false
def SupA (L:List (Nat×Nat)) (A:Nat->Bool):Prop:= ∀e,A e=true->e<L.length
structure Circ (L:List (Nat×Nat)) (C:Nat->Bool):Prop where
 sup:SupA L C
 ev:EvenA L C
 ne: ∃e,C e=true
 mn: ∀D:Nat->Bool,(∀e,D e=true->C e=true)->EvenA L D->(∃e,D e=true)-> ∀e,C e=true->D e=true
def Rel (L:List (Nat×Nat)) (e f:Nat):Prop:=e=f∨ ∃C,Circ L C∧C e=true∧C f=true
abbrev sn (s:BS) (x:Nat):Nat:=s.seen.getD x 0
abbrev lw (s:BS) (x:Nat):Nat:=s.low.getD x 0
def NL (L:List (Nat×Nat)) (e:Nat):Prop:=e<L.length∧(edL L e).1≠(edL L e).2
def tch (L:List (Nat×Nat)) (e x:Nat):Prop:=(edL L e).1=x∨(edL L e).2=x
structure Wit (L:List (Nat×Nat)) (S:Nat->Prop) (v y:Nat) (A:Nat->Bool) (b:Nat):Prop where
 sup:SupA L A
 bd: ∀T:Nat->Bool,cross L A T=xor (T v) (T y)
 ab:A b=true
 nl:NL L b
 tb:tch L b y
 ins: ∀e,A e=true->e≠b-> ∀x,tch L e x->S x
 bs: ∀x,tch L b x->S x∨x=y
structure PathA (L:List (Nat×Nat)) (anc:Nat->Prop) (v:Nat) (by':Int) (y:Nat) (Q:Nat->Bool):Prop where
 sup:SupA L Q
 bd: ∀T:Nat->Bool,cross L Q T=xor (T y) (T v)
 ins: ∀e,Q e=true-> ∀x,tch L e x->anc x∨x=v
 last: ∀e,Q e=true->tch L e v->(e:Int)=by'
structure PreV (L:List (Nat×Nat)) (v:Nat) (by':Int) (anc:Nat->Prop) (s:BS):Prop where
 ok:BOK L.length s
 hv:v<12
 h0:sn s v=0
 ancs: ∀y,anc y->sn s y≠0
 fin: ∀e,NL L e-> ∀x z,tch L e x->tch L e z->sn s x≠0-> ¬anc x->sn s z≠0
 path: ∀y,anc y-> ∃Q,PathA L anc v by' y Q
 byq: ∀e:Nat,(e:Int)=by'-> ∀x,tch L e x->x=v∨anc x
 byn: ∀y,anc y->0≤by'
structure Fnd (L:List (Nat×Nat)) (v:Nat) (by':Int) (anc:Nat->Prop) (s si:BS) (seg:List Nat) (nb:List (List Nat)):Prop where
 ok:BOK L.length si
 opn:si.opn=s.opn++seg
 out:si.out=s.out++nb
 keep: ∀x,sn s x≠0->sn si x=sn s x
 keepl: ∀x,sn s x≠0->lw si x=lw s x
 new: ∀x,sn s x=0->sn si x≠0->x≠v->s.time+1<sn si x
 sv:sn si v=s.time+1
 segn: ∀e,e∈seg->NL L e∧(e:Int)≠by'∧ ∃x,(sn s x=0∧sn si x≠0)∧tch L e x
 segi: ∀e,e∈seg-> ∀x,tch L e x->(sn s x=0∧sn si x≠0)∨(anc x∧lw si v≤sn s x)
 segr: ∀e,e∈seg->0≤by'∧Rel L by'.toNat e
 nbn: ∀B,B∈nb-> ∀e,e∈B->NL L e∧(e:Int)≠by'∧ ∃x,(sn s x=0∧sn si x≠0)∧tch L e x
 nbi: ∀B,B∈nb-> ∀e,e∈B-> ∀x,tch L e x->(sn s x=0∧sn si x≠0)
 nbr: ∀B,B∈nb->B≠[]∧ ∀e,e∈B-> ∀f,f∈B->Rel L e f
 nbs: ∀B,B∈nb->B.Pairwise (·< ·)
 nd:(seg++nb.flatten).Nodup
 peel: ∀(j:Nat) B,nb[j]? =some B-> ∃a,∀x f g,f∈B->tch L f x->NL L g->g∉(nb.take (j+1)).flatten->tch L g x->x=a
 lowle:lw si v≤sn si v
 wit:lw si v<sn si v-> ∃y A b,anc y∧sn s y=lw si v∧Wit L (fun x=>sn s x=0∧sn si x≠0) v y A b
structure Md (L:List (Nat×Nat)) (v:Nat) (by':Int) (anc:Nat->Prop) (s:BS) (i:Nat) (si:BS) (seg:List Nat) (nb:List (List Nat)):Prop where
 fd:Fnd L v by' anc s si seg nb
 cov: ∀e,NL L e-> ∀x,sn s x=0->sn si x≠0->x≠v->tch L e x->e∈seg∨e∈nb.flatten
 covv: ∀e,e∈(atV L v).take i->e∈seg∨e∈nb.flatten∨(e:Int)=by'
 src: ∀e,e∈seg∨e∈nb.flatten->(∃x,sn s x=0∧sn si x≠0∧x≠v∧tch L e x)∨e∈(atV L v).take i
structure VS (L:List (Nat×Nat)) (v:Nat) (by':Int) (anc:Nat->Prop) (s s':BS) (seg:List Nat) (nb:List (List Nat)):Prop where
 fd:Fnd L v by' anc s s' seg nb
 cov: ∀e,NL L e-> ∀x,sn s x=0->sn s' x≠0->tch L e x->e∈seg∨e∈nb.flatten∨(e:Int)=by'
section
variable {L:List (Nat×Nat)} {v:Nat} {by':Int} {anc:Nat->Prop} {s si:BS} {seg:List Nat} {nb:List (List Nat)} {i:Nat}
end
def C25 (v:Int) (e:E):Option (Int×Int):=if e.a≠e.b∧(e.a=v∨e.b=v) then some (e.a+e.b-v,e.m) else none
def lnkL (es:List E) (v:Int):List (Int×Int):=es.filterMap (C25 v)
def A67 (l:List (Int×Int)):List (List TVal):=l.map fun p=>[A0j p.1,A0j p.2]
def A7u (l:List (Int×Int)):(A67 l).length=l.length:=by simp [A67]
def B7l {l:List (Int×Int)} {i:Nat} {p:Int×Int} (h:l[i]? =some p):(A67 l)[i]? =some [A0j p.1,A0j p.2]:=by
 simp [A67,h]
def A7v {l:List (Int×Int)} {i:Nat} {ts:List TVal} (h:(A67 l)[i]? =some ts): ∃p,l[i]? =some p∧ts=[A0j p.1,A0j p.2]:=by
 simp only [A67,QQ] at h;cases hl:l[i]? with
 | none=>simp [hl] at h
 | some p=>simp [hl] at h; exact ⟨p,rfl,h.symm⟩
def B9u {es:List E} {v:Int} {i:Nat} (h:i<es.length):lnkL (es.take (i+1)) v=lnkL (es.take i) v++(C25 v es[i]).toList:=by
 unfold lnkL;rw [Xy h,Qz8,List.filterMap_cons,List.filterMap_nil];cases hx:C25 v es[i]<;>rfl
def B7m {es:List E} {v:Int} {i:Nat} (h:i<es.length):lnkL es v=lnkL (es.take i) v++((C25 v es[i]).toList++lnkL (es.drop (i+1)) v):=by
 have e:es=es.take i++es[i]::es.drop (i+1):=by rw [<-Zk h,WJ]
 conv=>lhs; rw [e]
 unfold lnkL;rw [Qz8,List.filterMap_cons];cases hx:C25 v es[i]<;>simp [hx]
def B3a (n:Int) (es:List E) (v:Int) (hl:es.length<2^40) (hm: ∀e,e∈es->(0≤e.a∧e.a<2^40)∧(0≤e.b∧e.b<2^40)) (hv:0≤v∧v<2^40):
  AIter Tryz.prog 201 [.rptr [.rptr [.int .i64 n,.slice (A0f es)]],.rptr [.int .i64 v]] (A67 (lnkL es v)):=by
 refine AIter.of_body Tryz.func201 rfl (by kernel_rfl) rfl (fun l J Jx hJ hJx hY=> ?_);simp only [entry,Tryz.ntmps201,ofT,A3v,A0v,XY,ZQ,List.length_cons,List.length_nil,Nat.reduceAdd,Nat.reduceSub,List.replicate_succ,List.replicate_zero,List.cons_append,List.nil_append];refine zR (zc @A00 Qv5) Qv5 Qv5 ?_;refine AWp.loopS (α:=Nat) 50 (fun i=>[(0,.c (.yld l)),(1,.c (.rptr [.rptr [.int .i64 n,.slice (A0f es)]])),(2,.c (.rptr [.int .i64 v])),(11,.c (.slice (A0f es) .none)),(12,.c (.int .i64 (es.length:Int))),(13,.c (.int .i64 (i:Int)))]) (fun i=>[.ghost (J (lnkL (es.take i) v).length)]) (fun i=>i≤es.length) (fun i=>es.length-i) (0) (hk:=Weak.headL 1 50 [0,1,2,11,12,13] zW) (h0:=?_) (round:=fun i hI=>?_)
 ·exact Xj _
 ·have hi:i≤es.length:=hI;clear hI;by_cases hlt:i<es.length
  ·have hltI:(i:Int)<(es.length:Int):=by omega
   have e1:es[i]? =some es[i]:=Qq hlt;have e2:=A2j e1;have hmi:=hm es[i] (Xw hlt);have hts:=B9u (v:=v) hlt;have hsp:=B7m (v:=v) hlt
   have hgk: ∀p,C25 v es[i]=some p->(A67 (lnkL es v))[(lnkL (es.take i) v).length]? =some [A0j p.1,A0j p.2]:=fun p hp=>B7l (by
    rw [hsp,hp,QW (Qk _)]; simp)
   generalize es[i]=e at*;generalize hLi:lnkL (es.take i) v=Li at*;generalize hLi1:lnkL (es.take (i+1)) v=Li1 at*;clear hsp;obtain ⟨a,b,m⟩:=e;unfold C25 at hts hgk;simp only at hts hgk hmi;by_cases hab:a=b
   ·rw [if_neg (fun q=>q.1 hab),Option.toList_none,WX] at hts;refine zR (zc @hltI (zc @e2 (zc @hab (zc @A00 Qv5)))) Qv5 Qv5 ?_;refine ⟨i+1,Weak.headF 1 50 [0,1,2,11,12,13] (zc @hLi1 (zc @hts Qv5)) zW,?_,?_⟩
    ·exact hlt
    ·omega
   ·by_cases hav:a=v
    ·have hg:=hgk _ (if_pos ⟨hab,.inl hav⟩);rw [if_pos ⟨hab,.inl hav⟩] at hts;have hln:Li1.length=Li.length+1:=by rw [hts]; simp
     simp only [hav] at hg;refine zM (zc Qv5 (prt 4 22)) (zc @hltI (zc @e2 (zc @hab (zc @hav (zc @A00 Qv5))))) Qv5 Qv5 Qv5 (ed fun hp hpc=>?_);simp only [Zy,Yq];refine AReg.yieldG rfl rfl (by rfl) (by rfl) (by with_unfolding_all rfl) (by simp [okBlk]) (hY _ _ hg) (hJ _) hJx ?_ ?_<;>(try refine zS ?_)<;>refine AReg.rest (fun K hK=> ?_)
     ·
      refine zM trivial trivial trivial trivial trivial (ed fun hp hpc=>?_);refine ⟨i+1,Weak.headF 1 50 [0,1,2,11,12,13] (zc @hLi1 (zc @hln Qv5)) zW,?_,?_⟩
      ·exact hlt
      ·omega
     ·
      refine zM trivial trivial trivial trivial trivial (ed fun hp hpc=>?_);exact ⟨Qv3,_,.inr rfl⟩
    ·by_cases hbv:b=v
     ·have hg:=hgk _ (if_pos ⟨hab,.inr hbv⟩);rw [if_pos ⟨hab,.inr hbv⟩] at hts;have hln:Li1.length=Li.length+1:=by rw [hts]; simp
      simp only [hbv] at hg;refine zM (zc Qv5 (prt 4 22)) (zc @hltI (zc @e2 (zc @hab (zc @hav (zc @hbv (zc @A00 Qv5)))))) Qv5 Qv5 Qv5 (ed fun hp hpc=>?_);simp only [Zy,Yq];refine AReg.yieldG rfl rfl (by rfl) (by rfl) (by with_unfolding_all rfl) (by simp [okBlk]) (hY _ _ hg) (hJ _) hJx ?_ ?_<;>(try refine zS ?_)<;>refine AReg.rest (fun K hK=> ?_)
      ·
       refine zM trivial trivial trivial trivial trivial (ed fun hp hpc=>?_);refine ⟨i+1,Weak.headF 1 50 [0,1,2,11,12,13] (zc @hLi1 (zc @hln Qv5)) zW,?_,?_⟩
       ·exact hlt
       ·omega
      ·
       refine zM trivial trivial trivial trivial trivial (ed fun hp hpc=>?_);exact ⟨Qv3,_,.inr rfl⟩
     ·rw [if_neg (fun q=>q.2.elim hav hbv),Option.toList_none,WX] at hts;refine zR (zc @hltI (zc @e2 (zc @hab (zc @hav (zc @hbv (zc @A00 Qv5)))))) Qv5 Qv5 ?_;refine ⟨i+1,Weak.headF 1 50 [0,1,2,11,12,13] (zc @hLi1 (zc @hts Qv5)) zW,?_,?_⟩
      ·exact hlt
      ·omega
  ·have ei:i=es.length:=by omega
   have hnl: ¬(i:Int)<(es.length:Int):=by omega
   refine zR (zc @hnl (zc @A00 Qv5)) Qv5 Qv5 ?_;exact ⟨Qv3,_,.inl (by rw [A7u,ei,Zz])⟩
def C26 (n:Int) (es:List E) (v:Int):ACall Tryz.prog 185 [.t (.rptr [.int .i64 n,.slice (A0f es)]),A0j v] (.t (.fn 201 [.rptr [.rptr [.int .i64 n,.slice (A0f es)]],.rptr [.int .i64 v]])):=by
 refine ACall.of_body Tryz.func185 rfl (by kernel_rfl) ?_;simp only [entry,Tryz.ntmps185,A0j];refine zU ?_;refine zR Qv5 Qv5 Qv5 ?_;simp [A0s,A0r,Blk.cells,ty,Tryz.results185,A0o,A0p,toT,A0d,A0b,A0c,A0a]
def Peel (L:List (Nat×Nat)) (nb:List (List Nat)):Prop:= ∀(j:Nat) B,nb[j]? =some B-> ∃a,∀x f g,f∈B->tch L f x->NL L g->g∉(nb.take (j+1)).flatten->tch L g x->x=a
section
variable {L:List (Nat×Nat)} {v:Nat} {by':Int} {anc:Nat->Prop} {s si:BS} {seg:List Nat} {nb:List (List Nat)} {i:Nat}
end
structure AllF (L:List (Nat×Nat)) (i:Nat) (s:BS) (nb:List (List Nat)):Prop where
 ok:BOK L.length s
 opn:s.opn=[]
 out:s.out=loopsB L++nb
 fin: ∀e,NL L e-> ∀x z,tch L e x->tch L e z->sn s x≠0->sn s z≠0
 cov: ∀e,NL L e-> ∀x,tch L e x->sn s x≠0->e∈nb.flatten
 nbn: ∀B,B∈nb-> ∀e,e∈B->NL L e∧ ∀x,tch L e x->sn s x≠0
 nbr: ∀B,B∈nb->B≠[]∧ ∀e,e∈B-> ∀f,f∈B->Rel L e f
 nbs: ∀B,B∈nb->B.Pairwise (·< ·)
 nd:nb.flatten.Nodup
 peel:Peel L nb
 done: ∀v,v<i->sn s v≠0
structure BlkF (L:List (Nat×Nat)) (nb:List (List Nat)):Prop where
 mem: ∀e,e∈nb.flatten↔NL L e
 ne: ∀B,B∈nb->B≠[]
 srt: ∀B,B∈nb->B.Pairwise (·< ·)
 rel: ∀B,B∈nb-> ∀e,e∈B-> ∀f,f∈B->Rel L e f
 nd:nb.flatten.Nodup
 peel:Peel L nb
section
variable {L:List (Nat×Nat)} {nb:List (List Nat)}
end
end Go.Proofs.YtdbdfkohpjefjaaGreat
