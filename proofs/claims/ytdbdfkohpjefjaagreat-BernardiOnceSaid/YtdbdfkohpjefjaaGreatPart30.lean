/- A part of the proof. -/
import Derived.Test.YtdbdfkohpjefjaaGreatPart25
set_option linter.all false
set_option maxHeartbeats 4000000
set_option maxRecDepth 100000
namespace Go.Proofs.YtdbdfkohpjefjaaGreat
open Go.Sp
def isJ (p:Int×Int) (u v:Nat):Prop:=p.1≠p.2∧((p.1=u∧p.2=v)∨(p.2=u∧p.1=v))
instance (p:Int×Int) (u v:Nat):Decidable (isJ p u v):=by unfold isJ; infer_instance
def cJ:List (Int×Int)->Nat->Nat->Int
 | [],_,_=>0
 | p::l,u,v=>(if isJ p u v then 1 else 0)+cJ l u v
theorem C2G (l m:List (Int×Int)) (u v:Nat):cJ (l++m) u v=cJ l u v+cJ m u v:=by
 induction l with
 | nil=>simp [cJ]
 | cons p l ih=>simp only [List.cons_append,cJ,ih]; omega
theorem C5u (p:Int×Int) (k:Nat) (u v:Nat):cJ (List.replicate k p) u v=if isJ p u v then (k:Int) else 0:=by
 induction k with
 | zero=>simp [cJ]
 | succ k ih=>rw [List.replicate_succ]; simp only [cJ,ih]; split<;>omega
theorem C3M {es:List E} (h: ∀e,e∈es->0≤e.m) (u v:Nat):cJ (endsL es) u v=mulE es u v:=by
 induction es with
 | nil=>rfl
 | cons e es ih=>
  have h1:endsL (e::es)=List.replicate e.m.toNat (e.a,e.b)++endsL es:=rfl;have h2:=h e (by simp);rw [h1,C2G,C5u,ih fun x hx=>h x (by simp [hx])];have h3:mulE (e::es) u v=(if e.a≠e.b∧((e.a=u∧e.b=v)∨(e.b=u∧e.a=v)) then e.m else 0)+mulE es u v:=rfl;rw [h3]; unfold isJ;rw [Int.toNat_of_nonneg h2]
theorem B3U {P Q:Prop} [Decidable P] [Decidable Q] (h:P↔Q) {α:Type} {x y:α}:(if P then x else y)=if Q then x else y:=by
 by_cases hp:P
 ·rw [if_pos hp,if_pos (h.1 hp)]
 ·rw [if_neg hp,if_neg fun q=>hp (h.2 q)]
section
variable {E n:Nat} {s g:Nat->Nat} {t t':Nat->Bool} {p p':Nat->Nat} {h0:Nat}
theorem B2t {P:Nat->Prop}: ∀k,P k-> ∃i,i≤k∧P i∧ ∀j,j<i-> ¬P j:=by
 intro k
 induction k using Nat.strongRecOn with
 | ind k ih=>
  intro hk;by_cases h: ∃j,j<k∧P j
  ·obtain ⟨j,hj,hp⟩:=h;obtain ⟨i,h1,h2,h3⟩:=ih j hj hp;exact ⟨i,by omega,h2,h3⟩
  ·exact ⟨k,QQ _,hk,fun j hj hp=>h ⟨j,hj,hp⟩⟩
structure BrkD (E n:Nat) (g:Nat->Nat) (D:Nat->Int):Prop where
 deg:sumR D n=E-n+1
 low: ∀A:Nat->Bool,(∃v,v<n∧A v=true)->sumR (fun e=>if A (g (2*e))=true∧A (g (2*e+1))=true then 1 else 0) E-sumR (fun v=>if A v=true then 1 else 0) n+1≤sumR (fun v=>if A v=true then D v else 0) n
def B2u (E:Nat) (g p:Nat->Nat) (t:Nat->Bool) (v:Nat):Int:=sumR (fun e=>if t e=false∧g (B6p p e)=v then 1 else 0) E
theorem C5v {e:Nat} (he:e<E):B6p p e<2*E:=by unfold B6p; split<;>omega
theorem B5f (hg: ∀x,x<2*E->g x<n) (A:Nat->Bool):sumR (fun v=>if A v=true then B2u E g p t v else 0) n=B3A E g p t A:=by
 unfold B2u B3A;have e1:sumR (fun v=>if A v=true then sumR (fun e=>if t e=false∧g (B6p p e)=v then 1 else 0) E else 0) n=sumR (fun v=>sumR (fun e=>if A v=true then (if t e=false∧g (B6p p e)=v then 1 else 0) else 0) E) n:=A0w fun v _=>by
  split
  ·rfl
  ·rw [A1x fun _ _=>rfl]
 rw [e1,B2f];refine A0w fun e he=> ?_;rw [A0w (g:=fun v=>if v=g (B6p p e) then (if t e=false∧A (g (B6p p e))=true then 1 else 0) else 0) fun v _=> ?_,A2N _ _ (hg _ (C5v he))];by_cases h:v=g (B6p p e)
 ·subst h; rw [if_pos rfl];cases t e<;>cases A (g (B6p p e))<;>simp
 ·rw [if_neg h]; split
  ·exact if_neg fun q=>h q.2.symm
  ·rfl
theorem C1N:B3A E g p t (fun _=>true)=E-sumR (fun e=>if t e=true then 1 else 0) E:=by
 have:B3A E g p t (fun _=>true)+sumR (fun e=>if t e=true then 1 else 0) E=E:=by
  unfold B3A;rw [<-A1A,A0w (g:=fun _=>1) fun e _=>by cases t e<;>rfl,A5q]; omega
 omega
theorem C1O (hg: ∀x,x<2*E->g x<n) (hT:STree E n g t):BrkD E n g (B2u E g p t):=by
 refine ⟨?_,fun A hA=> ?_⟩
 ·have:=B5f (p:=p) (t:=t) hg fun _=>true;rw [C1N,hT.tot] at this;have e:sumR (fun v=>if (fun _=>true) v=true then B2u E g p t v else 0) n=sumR (B2u E g p t) n:=A0w fun v _=>if_pos rfl;rw [e] at this; omega
 ·rw [B5f hg];have h1:=hT.few A hA;have h2:sumR (fun e=>if A (g (2*e))=true∧A (g (2*e+1))=true then 1 else 0) E-sumR (fun e=>if t e=true∧A (g (2*e))=true∧A (g (2*e+1))=true then 1 else 0) E≤B3A E g p t A:=by
   unfold B3A;rw [<-B0T];refine B38 fun e _=> ?_;have F:A (g (B6p p e))=if p (2*e)<p (2*e+1) then A (g (2*e)) else A (g (2*e+1)):=by unfold B6p; split<;>rfl
   rw [F];cases t e<;>cases A (g (2*e))<;>cases A (g (2*e+1))<;>simp<;>split<;>omega
  omega
variable {M:Nat->Nat->Int}
def Joins (E n:Nat) (g:Nat->Nat) (M:Nat->Nat->Int):Prop:= ∀u v,u<n->v<n->u≠v->M u v=sumR (fun f=>(if g (2*f)=u∧g (2*f+1)=v then 1 else 0)+if g (2*f)=v∧g (2*f+1)=u then 1 else 0) E
end
theorem B9p {n:Nat} {R:Nat->Nat->Prop} (h0:0<n) (h: ∀x y,x<n->y<n->R x y):ncls n R=1:=by
 rw [A2o (S:=fun x y=>(fun _:Nat=>0) x=(fun _:Nat=>0) y) fun x y hx hy=>⟨fun _=>rfl,fun _=>h x y hx hy⟩];exact A8Z _ (fun x _=>by omega) fun v hv=>⟨0,h0,by omega⟩
open Classical in
theorem C3N {n:Nat} {R:Nat->Nat->Prop} {A:Nat->Bool} (hA: ∃v,v<n∧A v=true) (h: ∀x y,x<n->y<n->R x y->x=y∨(A x=true∧A y=true)):(n:Int)-sumR (fun v=>if A v=true then 1 else 0) n+1≤ncls n R:=by
 obtain ⟨v0,hv0,hA0⟩:=hA;obtain ⟨m,hm0,⟨hm,hAm⟩,hmin⟩:=B2t (P:=fun v=>v<n∧A v=true) v0 ⟨hv0,hA0⟩;have hsub:=Wx (l₁:=m::(List.range n).filter fun v=> !A v) (l₂:=(List.range n).filter fun h=>decide (∀y,y<n->R h y->h≤y)) (Qz3.2 ⟨fun hx=>by simp [hAm] at hx,List.nodup_range.filter _⟩) fun x hx=>by
  rcases Qw.1 hx with rfl | hx
  ·refine ZV.2 ⟨XQ.2 hm,decide_eq_true fun y hy hR=> ?_⟩;rcases h _ _ hm hy hR with e | ⟨_,e⟩
   ·omega
   ·exact XZ fun hlt=>hmin y (by omega) ⟨hy,e⟩
  ·obtain ⟨q1,q2⟩:=ZV.1 hx;refine ZV.2 ⟨q1,decide_eq_true fun y hy hR=> ?_⟩;rcases h _ _ (XQ.1 q1) hy hR with e | ⟨e,_⟩
   ·omega
   ·rw [e] at q2; cases q2
 have hc: ∀k,(((List.range k).filter fun v=> !A v).length:Int)=k-sumR (fun v=>if A v=true then 1 else 0) k:=fun k=>by
  induction k with
  | zero=>rfl
  | succ k ih=>
   rw [Jq,JJ,Xv,Int.natCast_add,ih,sumR];by_cases h:A k=true
   ·rw [if_pos h,Qx2 (by simp [h]),List.filter_nil,List.length_nil]; omega
   ·rw [if_neg h,Qx1 (by simpa using h),List.filter_nil,List.length_singleton]; omega
 rw [List.length_cons] at hsub;have:=hc n;unfold ncls;omega
theorem C1P {L:List (Int×Int)} {t:List Int} (p:Int->Bool):A4t (pkL L t)->A4t (pkL L (t.filter p)):=by
 refine A2H (P:=fun t=>A4t (pkL L t)->A4t (pkL L (t.filter p))) ?_ ?_ t
 ·exact fun h=>h
 ·intro t x ih h;have e0:pkL L (t++[x])=pkL L t++[L.getD x.toNat (0,0)]:=by simp [pkL]
  rw [e0,A24] at h;rw [JJ];by_cases e:p x=true
  ·rw [Qx1 e,List.filter_nil];have e1:pkL L (t.filter p++[x])=pkL L (t.filter p)++[L.getD x.toNat (0,0)]:=by simp [pkL]
   rw [e1,A24];refine ⟨ih h.1,fun hc=>h.2 (hc.mono fun q hq=> ?_)⟩;obtain ⟨y,hy,rfl⟩:=QJ.1 hq;exact QJ.2 ⟨y,(ZV.1 hy).1,rfl⟩
  ·rw [Qx2 e,List.filter_nil,WZ]; exact ih h.1
def B2v (L:List (Int×Int)) (g:Nat->Nat):Prop:= ∀k,k<L.length->L[k]? =some (((g (2*k):Nat):Int),((g (2*k+1):Nat):Int))
section
variable {n:Nat} {L:List (Int×Int)} {g:Nat->Nat} {t:List Int}
theorem B9q (hg:B2v L g) {x:Int} (h0:0≤x) (hx:x<L.length):L.getD x.toNat (0,0)=(((g (2*x.toNat):Nat):Int),((g (2*x.toNat+1):Nat):Int)):=by
 rw [Qz,hg _ (by omega)]; rfl
theorem A7k (hg:B2v L g):A4t (pkL L t)->(∀x,x∈t->0≤x∧x<L.length)->t.Nodup:=by
 refine A2H (P:=fun t=>A4t (pkL L t)->(∀x,x∈t->0≤x∧x<L.length)->t.Nodup) ?_ ?_ t
 ·intro _ _; exact List.nodup_nil
 ·intro t x ih h ht;have e0:pkL L (t++[x])=pkL L t++[L.getD x.toNat (0,0)]:=by simp [pkL]
  rw [e0,A24] at h
  refine WX.2 ⟨ih h.1 fun y hy=>ht y (by simp [hy]),by simp,fun a ha b hb=>by
   simp at hb; subst hb; rintro rfl;have hx:=ht a (by simp);have:=B9q hg hx.1 hx.2;refine h.2 (.one (.inl ?_));rw [this]
   exact QJ.2 ⟨a,ha,by rw [this]; rfl⟩⟩
open Classical in
theorem B5g (hnd:t.Nodup) {E:Nat} (ht: ∀x,x∈t->0≤x∧x<E) (p:Nat->Bool):sumR (fun e=>if decide ((e:Int)∈t)=true∧p e=true then 1 else 0) E=((t.filter fun x=>p x.toNat).length:Int):=by
 revert hnd ht;refine A2H (P:=fun t:List Int=>t.Nodup->(∀x,x∈t->0≤x∧x<E)->sumR (fun e=>if decide ((e:Int)∈t)=true∧p e=true then 1 else 0) E=((t.filter fun x=>p x.toNat).length:Int)) ?_ ?_ t
 ·intro _ _; exact A1x fun e _=>by simp
 ·intro t x ih hnd ht;have hx:=ht x (by simp);have hxt:x∉t:=fun hx=>(WX.1 hnd).2.2 x hx x (by simp) rfl;have h1:=ih (WX.1 hnd).1 fun y hy=>ht y (by simp [hy]);have e:sumR (fun e:Nat=>if decide ((e:Int)∈t++[x])=true∧p e=true then (1:Int) else 0) E=sumR (fun e:Nat=>(if decide ((e:Int)∈t)=true∧p e=true then (1:Int) else 0)+if e=x.toNat then (if p x.toNat=true then 1 else 0) else 0) E:=A0w fun e _=>by
   by_cases q:e=x.toNat
   ·subst q;have:((x.toNat:Nat):Int)=x:=by omega
    rw [this];simp [hxt]
   ·have: ¬(e:Int)=x:=by omega
    simp [this,q]
  rw [e,A1A,h1,A2N _ _ (by omega),JJ,Xv];cases q:p x.toNat<;>simp [q]
open Classical in
theorem C1Q (h0:0<n) (hg:B2v L g) (hgl: ∀x,x<2*L.length->g x<n) (ht: ∀x,x∈t->0≤x∧x<L.length) (hb:treeB n L t=true):STree L.length n g fun e=>decide ((e:Int)∈t):=by
 unfold treeB at hb;obtain ⟨hl,hc⟩:=of_decide_eq_true hb;have hL:InN n L:=fun p hp=>by
  obtain ⟨k,hk⟩:=ZZ.1 hp;have hkl:=(Qx.1 hk).1;rw [hg k hkl] at hk; injection hk with hk; subst hk;have:=hgl (2*k) (by omega);have:=hgl (2*k+1) (by omega);dsimp only; omega
 have hac:A4t (pkL L t):=(A4j _ (A9a hL ht)).2.2 (by rw [hc,A2r]; omega);have hnd:=A7k hg hac ht;have hpk: ∀(p:Int->Bool) {a b:Int},(a,b)∈pkL L (t.filter p)-> ∃x,x∈t∧p x=true∧a=(g (2*x.toNat):Nat)∧b=(g (2*x.toNat+1):Nat):=fun p a b h=>by
  obtain ⟨x,hx,e⟩:=QJ.1 h;obtain ⟨hx1,hx2⟩:=ZV.1 hx;rw [B9q hg (ht x hx1).1 (ht x hx1).2] at e;injection e with e1 e2;exact ⟨x,hx1,hx2,e1.symm,e2.symm⟩
 have hlen: ∀p:Int->Bool,(n:Int)=ncls n (Conn (pkL L (t.filter p)))+((t.filter p).length:Nat):=fun p=>by
  have:=(A4j (n:=n) (pkL L (t.filter p)) (A9a hL fun x hx=>ht x (ZV.1 hx).1)).2.1 (C1P p hac);rw [A2r] at this; omega
 refine ⟨?_,fun A hA=> ?_,fun e he hte=> ?_⟩
 ·have:=B5g hnd ht fun _=>true;simp only [and_true] at this;rw [this,List.filter_eq_self.2 fun _ _=>rfl]; exact hl
 ·have h1:=B5g hnd ht fun e=>A (g (2*e))&&A (g (2*e+1));simp only [XY] at h1;rw [h1];have h2:=hlen fun x=>A (g (2*x.toNat))&&A (g (2*x.toNat+1));have h3:=C3N (R:=Conn (pkL L (t.filter fun x=>A (g (2*x.toNat))&&A (g (2*x.toNat+1))))) hA fun x y _ _ hR=>by
   have key: ∀{x y:Nat},Conn (pkL L (t.filter fun x=>A (g (2*x.toNat))&&A (g (2*x.toNat+1)))) x y->x=y∨(A x=true∧A y=true):=fun {x y} hR=>by
    induction hR with
    | refl=>exact .inl rfl
    | step _ hs ih=>
     rename_i b c _;have hbc:A b=true∧A c=true:=by
      rcases hs with q | q
      ·obtain ⟨z,_,hz,e1,e2⟩:=hpk _ q;rw [XY] at hz;have e1':b=g (2*z.toNat):=by omega
       have e2':c=g (2*z.toNat+1):=by omega
       rw [e1',e2']; exact hz
      ·obtain ⟨z,_,hz,e1,e2⟩:=hpk _ q;rw [XY] at hz;have e1':c=g (2*z.toNat):=by omega
       have e2':b=g (2*z.toNat+1):=by omega
       rw [e1',e2']; exact ⟨hz.2,hz.1⟩
     rcases ih with e | e
     ·rw [e]; exact .inr hbc
     ·exact .inr ⟨e.1,hbc.2⟩
   exact key hR
  omega
 ·have hte:=of_decide_eq_true hte;have hnc: ¬Conn (pkL L (t.filter fun x=>decide (x≠(e:Int)))) (g (2*e)) (g (2*e+1)):=fun hcon=>by
   have go: ∀{b c:Nat},((b:Int),(c:Int))∈pkL L t->Conn (pkL L (t.filter fun x=>decide (x≠(e:Int)))) b c:=fun {b c} h=>by
    obtain ⟨z,hz,e1⟩:=QJ.1 h;by_cases hze:z=e
    ·subst hze;rw [B9q hg (ht _ hz).1 (ht _ hz).2] at e1;injection e1 with e1 e2;have e1':g (2*e)=b:=by rw [Int.toNat_natCast] at e1; omega
     have e2':g (2*e+1)=c:=by rw [Int.toNat_natCast] at e2; omega
     rw [<-e1',<-e2']; exact hcon
    ·exact .one (.inl (QJ.2 ⟨z,ZV.2 ⟨hz,decide_eq_true hze⟩,e1⟩))
   have go2: ∀{x y:Nat},Conn (pkL L t) x y->Conn (pkL L (t.filter fun x=>decide (x≠(e:Int)))) x y:=fun {x y} h=>by
    induction h with
    | refl=>exact .refl
    | step _ hs ih=>
     refine ih.trans ?_;rcases hs with q | q
     ·exact go q
     ·exact (go q).symm
   have h2:=hlen fun x=>decide (x≠(e:Int));have h3:ncls n (Conn (pkL L (t.filter fun x=>decide (x≠(e:Int)))))=ncls n (Conn (pkL L t)):=A2o fun x y _ _=>by
    constructor
    ·exact fun h=>h.mono fun q hq=>by
      obtain ⟨z,hz,rfl⟩:=QJ.1 hq;exact QJ.2 ⟨z,(ZV.1 hz).1,rfl⟩
    ·exact go2
   rw [hc] at h3;have h4:(t.filter fun x=>decide (x≠(e:Int))).length+1≤t.length:=by
    have hm:=Wx (l₁:=(e:Int)::t.filter fun x=>decide (x≠(e:Int))) (l₂:=t) (Qz3.2 ⟨fun hx=>by simp at hx,hnd.filter _⟩) fun x hx=>by
     rcases Qw.1 hx with rfl | hx
     ·exact hte
     ·exact (ZV.1 hx).1
    simpa using hm
   omega
  refine ⟨fun v=>decide (Conn (pkL L (t.filter fun x=>decide (x≠(e:Int)))) (g (2*e)) v),decide_eq_true .refl,decide_eq_false hnc,fun f hf htf hfe=> ?_⟩;have htf:=of_decide_eq_true htf
  have hst:Conn (pkL L (t.filter fun x=>decide (x≠(e:Int)))) (g (2*f)) (g (2*f+1)):= .one (.inl (QJ.2 ⟨f,ZV.2 ⟨htf,decide_eq_true (by omega)⟩,by
   have:=B9q hg (ht _ htf).1 (ht _ htf).2
   simpa using this⟩))
  rw [decide_eq_decide];exact ⟨fun h=>h.trans hst,fun h=>h.trans hst.symm⟩
end
structure Arnd (n E:Nat) (g:Nat->Nat) (ar:Nat->List Nat):Prop where
 mem: ∀v x,v<n->(x∈ar v↔x<2*E∧g x=v)
 nd: ∀v,v<n->(ar v).Nodup
def C1R (g:Nat->Nat) (ar:Nat->List Nat) (v:Nat):List Nat:=(ar v).map fun x=>g (oppH x)
def C5w (n q:Nat) (g H:Nat->Nat):Prop:= ∀S:Nat->Bool,S q=false->(∃v,v<n∧S v=true)-> ∃v,v<n∧S v=true∧S (g (oppH (H v)))=false
def C1S (ar:Nat->List Nat) (R:Nat->Nat) (v:Nat):Nat:=(ar v).getD (R v%(ar v).length) 0
def A9c (n q:Nat) (H:Nat->Nat):List Int:=((List.range n).filter fun v=>decide (v≠q)).map fun v=>((H v / 2:Nat):Int)
section
variable {n q:Nat} {L:List (Int×Int)} {g H H':Nat->Nat} {ar:Nat->List Nat} {t:List Int} {M:Nat->Nat->Int}
theorem B2w {x:Int}:x∈A9c n q H↔ ∃v,v<n∧v≠q∧x=((H v / 2:Nat):Int):=by
 unfold A9c;rw [QJ];constructor
 ·rintro ⟨v,hv,rfl⟩;obtain ⟨h1,h2⟩:=ZV.1 hv;exact ⟨v,XQ.1 h1,of_decide_eq_true h2,rfl⟩
 ·rintro ⟨v,h1,h2,rfl⟩;exact ⟨v,ZV.2 ⟨XQ.2 h1,decide_eq_true h2⟩,rfl⟩
theorem B1b (hq:q<n):((List.range n).filter fun v=>decide (v≠q)).length+1=n:=by
 have h1: ∀k,((List.range k).filter fun v=>decide (v≠q)).length+(if q<k then 1 else 0)=k:=fun k=>by
  induction k with
  | zero=>rfl
  | succ k ih=>
   rw [Jq,JJ,Xv];by_cases h:k=q
   ·rw [Qx2 (by simp [h]),List.filter_nil,List.length_nil,if_pos (by omega)];rw [if_neg (by omega)] at ih; omega
   ·rw [Qx1 (by simp [h]),List.filter_nil,List.length_singleton];by_cases h2:q<k
    ·rw [if_pos h2] at ih; rw [if_pos (by omega)]; omega
    ·rw [if_neg h2] at ih; rw [if_neg (by omega)]; omega
 have:=h1 n;rw [if_pos hq] at this; exact this
theorem B9r (hq:q<n):((A9c n q H).length:Int)=n-1:=by
 unfold A9c; rw [Zq]; have:=B1b hq; omega
theorem C3O (hg:B2v L g) {x:Nat} (hx:x<2*L.length):L.getD (((x / 2:Nat):Int).toNat) (0,0)=(((g x:Nat):Int),((g (oppH x):Nat):Int))∨L.getD (((x / 2:Nat):Int).toNat) (0,0)=(((g (oppH x):Nat):Int),((g x:Nat):Int)):=by
 have h:=B9q hg (x:=((x / 2:Nat):Int)) (by omega) (by omega);rw [h,Int.toNat_natCast];rcases Nat.mod_two_eq_zero_or_one x with e | e
 ·left;have e1:2*(x / 2)=x:=by omega
  have e2:2*(x / 2)+1=oppH x:=by unfold oppH; omega
  rw [e2,e1]
 ·right;have e1:2*(x / 2)+1=x:=by omega
  have e2:2*(x / 2)=oppH x:=by unfold oppH; omega
  rw [e1,e2]
open Classical in
theorem B6A (hq:q<n) (hg:B2v L g) (hH: ∀v,v<n->v≠q->H v<2*L.length∧g (H v)=v) (ha:C5w n q g H):treeB n L (A9c n q H)=true:=by
 have hst: ∀v,v<n->v≠q->Conn (pkL L (A9c n q H)) v (g (oppH (H v))):=fun v hv hn=>by
  obtain ⟨h1,h2⟩:=hH v hv hn;refine .one ?_;have hm:L.getD (((H v / 2:Nat):Int).toNat) (0,0)∈pkL L (A9c n q H):=QJ.2 ⟨_,B2w.2 ⟨v,hv,hn,rfl⟩,rfl⟩;rcases C3O hg h1 with e | e
  ·rw [e,h2] at hm; exact .inl hm
  ·rw [e,h2] at hm; exact .inr hm
 have hall: ∀v,v<n->Conn (pkL L (A9c n q H)) v q:=fun v hv=>by
  refine XZ fun hc=> ?_;obtain ⟨x,hx,h1,h2⟩:=ha (fun v=>decide (¬Conn (pkL L (A9c n q H)) v q)) (decide_eq_false fun h=>h .refl) ⟨v,hv,decide_eq_true hc⟩;have h1:=of_decide_eq_true h1;have h2:Conn (pkL L (A9c n q H)) (g (oppH (H x))) q:=XZ fun h=>(of_decide_eq_false h2) h;have hxq:x≠q:=by rintro rfl; exact h1 .refl
  exact h1 ((hst x hx hxq).trans h2)
 unfold treeB;exact decide_eq_true ⟨B9r hq,B9p (by omega) fun x y hx hy=>(hall x hx).trans (hall y hy).symm⟩
theorem C1T (ha:Arnd n L.length g ar) (R:Nat->Nat) {v:Nat} (hv:v<n) (hp:0<(ar v).length):C1S ar R v<2*L.length∧g (C1S ar R v)=v:=by
 refine (ha.mem v _ hv).1 ?_;unfold C1S;have:=VZ (R v) hp;rw [Qz,Qq this]; exact Xw this
theorem B5h (R:Nat->Nat) {v:Nat} (hp:0<(ar v).length):tgt (C1R g ar) v (R v)=g (oppH (C1S ar R v)):=by
 unfold tgt C1R C1S;rw [Zq];have:=VZ (R v) hp;rw [Qz,Qz,QY,Qq this]; rfl
theorem B9s (hp: ∀v,v<n->v≠q->0<(ar v).length) {R:Nat->Nat}:C5h n q (C1R g ar) R↔C5w n q g (C1S ar R):=by
 constructor
 ·intro h S hS hx;obtain ⟨v,hv,h1,h2⟩:=h S hS hx;refine ⟨v,hv,h1,?_⟩;rwa [B5h R (hp v hv (by rintro rfl; rw [hS] at h1; cases h1))] at h2
 ·intro h S hS hx;obtain ⟨v,hv,h1,h2⟩:=h S hS hx;refine ⟨v,hv,h1,?_⟩;rwa [B5h R (hp v hv (by rintro rfl; rw [hS] at h1; cases h1))]
end
section
variable {n q:Nat} {L:List (Int×Int)} {g s:Nat->Nat} {ar:Nat->List Nat} {M:Nat->Nat->Int} {h0:Nat}
theorem A5R (F:Nat->Int): ∀E:Nat,sumR F (2*E)=sumR (fun f=>F (2*f)+F (2*f+1)) E
 | 0=>rfl
 | E+1=>by
  rw [show 2*(E+1)=2*E+1+1 by omega,sumR,sumR,sumR,A5R F E]; omega
theorem C3P {l:List Nat} (hnd:l.Nodup) (p:Nat->Bool) {N:Nat} (hl: ∀x,x∈l->x<N):sumR (fun x=>if x∈l∧p x=true then 1 else 0) N=((l.countP p:Nat):Int):=by
 revert hnd hl;refine A2H (P:=fun l:List Nat=>l.Nodup->(∀x,x∈l->x<N)->sumR (fun x=>if x∈l∧p x=true then 1 else 0) N=((l.countP p:Nat):Int)) ?_ ?_ l
 ·intro _ _; exact A1x fun x _=>by simp
 ·intro l x ih hnd hl;have hx:x∉l:=fun hx=>(WX.1 hnd).2.2 x hx x (by simp) rfl;have h1:=ih (WX.1 hnd).1 fun y hy=>hl y (by simp [hy]);have e:sumR (fun y=>if y∈l++[x]∧p y=true then (1:Int) else 0) N=sumR (fun y=>(if y∈l∧p y=true then (1:Int) else 0)+if y=x then (if p x=true then 1 else 0) else 0) N:=A0w fun y _=>by
   by_cases q:y=x
   ·subst q; simp [hx]
   ·simp [q]
  rw [e,A1A,h1,A2N _ _ (hl x (by simp)),List.countP_append];cases q:p x<;>simp [Qz9,q]
theorem B5i (hA:Arnd n L.length g ar) (hJ:Joins L.length n g M) {v w:Nat} (hv:v<n) (hw:w<n) (hn:v≠w):((C1R g ar v).count w:Int)=M v w:=by
 unfold C1R;rw [List.count_eq_countP,List.countP_map,hJ v w hv hw hn,<-C3P (hA.nd v hv) _ (N:=2*L.length) fun x hx=>((hA.mem v x hv).1 hx).1,A5R];refine A0w fun f hf=> ?_;have e1:oppH (2*f)=2*f+1:=by unfold oppH; omega
 have e2:oppH (2*f+1)=2*f:=by unfold oppH; omega
 have k1:(2*f∈ar v∧((fun x=>x==w)∘fun x=>g (oppH x)) (2*f)=true)↔(g (2*f)=v∧g (2*f+1)=w):=by
  rw [hA.mem v _ hv,Function.comp_apply,e1,beq_iff_eq];exact ⟨fun h=>⟨h.1.2,h.2⟩,fun h=>⟨⟨by omega,h.1⟩,h.2⟩⟩
 have k2:(2*f+1∈ar v∧((fun x=>x==w)∘fun x=>g (oppH x)) (2*f+1)=true)↔(g (2*f)=w∧g (2*f+1)=v):=by
  rw [hA.mem v _ hv,Function.comp_apply,e2,beq_iff_eq];exact ⟨fun h=>⟨h.2,h.1.2⟩,fun h=>⟨⟨by omega,h.2⟩,h.1⟩⟩
 rw [B3U k1,B3U k2]
theorem C5x (hM:Mult n M) (hq:q<n) (hgl: ∀x,x<2*L.length->g x<n) (hA:Arnd n L.length g ar) (hJ:Joins L.length n g M):Rot n q (C1R g ar) M:=by
 refine ⟨hq,fun v x hv hx=> ?_,fun v hv hn=> ?_,fun v w hv hw hn=>B5i hA hJ hv hw hn⟩
 ·obtain ⟨y,hy,rfl⟩:=QJ.1 hx;exact hgl _ (B0g ((hA.mem v y hv).1 hy).1)
 ·obtain ⟨u,w,hu,hw,h1,h2,h3⟩:=hM.con (fun x=>decide (x=v)) ⟨v,hv,by simp⟩ ⟨q,hq,by simpa using Ne.symm hn⟩;have h1:=of_decide_eq_true h1;have h2:=of_decide_eq_false h2;subst h1;have:=B5i hA hJ hu hw (Ne.symm h2);refine XZ fun hp=> ?_;have hl:C1R g ar u=[]:=Yq.1 (by omega);rw [hl] at this;simp at this; omega
theorem C5y (v:Nat):(C1R g ar v).length=(ar v).length:=by unfold C1R; rw [Zq]
theorem B6B {T:Nat->List Nat} (hR:Rot n q T M) (hM:Mult n M): ∃R,C5h n q T R:=by
 obtain ⟨Lo,l1,l2,l3,l4,l5⟩:=B6n hM hR.hq n (by have:=hR.hq; omega) (QQ _);have hex: ∀v,∃r,∀i,1≤i->Lo[i]? =some v->tgt T v r∈Lo.take i:=fun v=>by
  by_cases h: ∃i,1≤i∧Lo[i]? =some v
  ·obtain ⟨i,hi,hv⟩:=h;obtain ⟨u,hu,hMu⟩:=l5 i v hi hv;have hvn:=l3 v (Qy hv);have hun:=l3 u (VQ hu);have hne:v≠u:=by rintro rfl; rw [hM.dia] at hMu; omega
   have hc:1≤((T v).count u:Int):=by rw [hR.cnt v u hvn hun hne]; exact hMu
   have hm:u∈T v:=List.count_pos_iff.1 (by omega);obtain ⟨r,hr⟩:=ZZ.1 hm;have hrl:=(Qx.1 hr).1;refine ⟨r,fun j hj hvj=> ?_⟩;have hij:j=i:=by
    have p1:=Qx.1 hv;have p2:=Qx.1 hvj;obtain ⟨a1,a2⟩:=p1;obtain ⟨b1,b2⟩:=p2;rcases Qw6 j i with k | k | k
    ·exact absurd (b2.trans a2.symm) ((Yz.1 l2) j i b1 a1 k)
    ·exact k
    ·exact absurd (a2.trans b2.symm) ((Yz.1 l2) i j a1 b1 k)
   subst hij;unfold tgt;rw [Vx hrl,Qz,hr]; exact hu
  ·exact ⟨0,fun i hi hv=>absurd ⟨i,hi,hv⟩ h⟩
 obtain ⟨R,hRR⟩:=Classical.axiomOfChoice hex;refine ⟨R,fun S hS ⟨v,hv,hSv⟩=> ?_⟩;have hall: ∀v,v<n->v∈Lo:=fun v hv=>by
  refine XZ fun hn=> ?_;have:=A8A (n:=n) (seen:=Lo++[v]) (WX.2 ⟨l2,by simp,fun a ha b hb=>by simp at hb; subst hb; rintro rfl; exact hn ha⟩) fun u hu=>by
   rcases XJ.1 hu with hu | hu
   ·exact l3 u hu
   ·simp at hu; omega
  simp at this; omega
 obtain ⟨k,hk⟩:=ZZ.1 (hall v hv);obtain ⟨i,_,⟨w,hw,hSw⟩,hmin⟩:=B2t (P:=fun i=> ∃w,Lo[i]? =some w∧S w=true) k ⟨v,hk,hSv⟩;have hi1:1≤i:=by
  refine XZ fun h=> ?_;have:i=0:=by omega
  subst this;rw [l4] at hw; injection hw with hw; rw [<-hw,hS] at hSw; cases hSw
 refine ⟨w,l3 w (Qy hw),hSw,?_⟩;have hm:=hRR w i hi1 hw;obtain ⟨j,hj⟩:=ZZ.1 hm;rw [List.getElem?_take] at hj;split at hj
 ·rename_i hji;cases hc:S (tgt T w (R w)) with
  | false=>rfl
  | true=>exact absurd ⟨_,hj,hc⟩ (hmin j hji)
 ·cases hj
def A6H (t:List Int) (e:Nat):Bool:=decide ((e:Int)∈t)
end
def C4D (t:Nat->Bool) (tn:Nat->Nat) (i:Nat):Bool:=(!t (tn i / 2))&&decide (oppH (tn i)∉(List.range i).map tn)
def B7l (t:Nat->Bool) (g tn:Nat->Nat) (k v:Nat):Int:=sumR (fun i=>if C4D t tn i=true∧g (tn i)=v then 1 else 0) k
section
variable {E:Nat} {f g p:Nat->Nat} {t:Nat->Bool} {h0:Nat}
theorem B9t {N:Nat} (P:TourP N f h0 p) (F:Nat->Int):sumR (fun i=>F (it f i h0)) N=sumR F N:=by
 have hnd:((List.range N).map fun i=>it f i h0).Nodup:=by
  refine A8V Qq4 fun i hi j hj e=> ?_;have h1:=P.back i (XQ.1 hi);have h2:=P.back j (XQ.1 hj);rw [e,h2] at h1; exact h1.symm
 have h:=B8J (n:=N) (L:=(List.range N).map fun i=>it f i h0) F hnd fun v hv=>by
  obtain ⟨i,_,rfl⟩:=QJ.1 hv;exact P.pl i
 rw [Zq,Vj] at h;have e1:sumR F N=sumR (fun v=>if v∈(List.range N).map (fun i=>it f i h0) then F v else 0) N:=A0w fun v hv=>by
  rw [if_pos (QJ.2 ⟨p v,XQ.2 (P.lt v hv),P.at_ v hv⟩)]
 rw [e1,h];refine A0w fun i hi=> ?_;rw [Qz,QY,Yv hi]; rfl
theorem B3V {N:Nat} (P:TourP N f h0 p) {i x:Nat} (hi:i<N) (hx:x<N):x∈(List.range i).map (fun j=>it f j h0)↔p x<i:=by
 rw [QJ];constructor
 ·rintro ⟨j,hj,rfl⟩;have hj:=XQ.1 hj;rw [P.back j (by omega)]; exact hj
 ·intro h;exact ⟨p x,XQ.2 h,P.at_ x hx⟩
theorem C1U (P:TourP (2*E) f h0 p) (v:Nat):B7l t g (fun i=>it f i h0) (2*E) v=B2u E g p t v:=by
 have h:=B9t P fun x=>if t (x / 2)=false∧p x≤p (oppH x)∧g x=v then 1 else 0
 have e1:B7l t g (fun i=>it f i h0) (2*E) v=sumR (fun i=>(fun x=>if t (x / 2)=false∧p x≤p (oppH x)∧g x=v then (1:Int) else 0) (it f i h0)) (2*E):=A0w fun i hi=>by
  dsimp only;have hx:=P.pl i;have hb:=P.back i hi;have hbf:=B3V P hi (B0g hx);have hc:C4D t (fun i=>it f i h0) i=true↔t (it f i h0 / 2)=false∧p (it f i h0)≤p (oppH (it f i h0)):=by
   unfold C4D;rw [XY,decide_eq_true_eq,hbf,hb];cases t (it f i h0 / 2)<;>simp
  have:(C4D t (fun i=>it f i h0) i=true∧g (it f i h0)=v)↔(t (it f i h0 / 2)=false∧p (it f i h0)≤p (oppH (it f i h0))∧g (it f i h0)=v):=by rw [hc,and_assoc]
  exact B3U this
 rw [e1,h,A5R];unfold B2u;refine A0w fun e he=> ?_;have hne:p (2*e)≠p (2*e+1):=fun q=>by
  have a1:=P.at_ (2*e) (by omega);have a2:=P.at_ (2*e+1) (by omega);rw [q,a2] at a1; omega
 have o1:oppH (2*e)=2*e+1:=by unfold oppH; omega
 have o2:oppH (2*e+1)=2*e:=by unfold oppH; omega
 rw [o1,o2,show 2*e / 2=e by omega,show (2*e+1) / 2=e by omega];unfold B6p;by_cases hl:p (2*e)<p (2*e+1)
 ·rw [if_pos hl];have: ¬p (2*e+1)≤p (2*e):=by omega
  have hl2:p (2*e)≤p (2*e+1):=by omega
  simp [this,hl2]
 ·rw [if_neg hl];have: ¬p (2*e)≤p (2*e+1):=by omega
  have hl2:p (2*e+1)≤p (2*e):=by omega
  simp [this,hl2]
end
end Go.Proofs.YtdbdfkohpjefjaaGreat
