/- A part of the proof. -/
import Derived.Test.YtdbdfkohpjefjaaGreatPart12
import Derived.Test.YtdbdfkohpjefjaaGreatPart11
import Derived.Test.YtdbdfkohpjefjaaGreatPart10
import Derived.Test.YtdbdfkohpjefjaaGreatPart06
set_option linter.all false
set_option maxHeartbeats 4000000
set_option maxRecDepth 100000
namespace Go.Proofs.YtdbdfkohpjefjaaGreat
open Go.Sp
section
structure PermL (n:Nat) (l:List Int):Prop where
 len:l.length=n
 rng: ∀x,x∈l->0≤x∧x<n
 nd:l.Nodup
def nrm (F:Int->Int) (x:E):E:=⟨min (F x.a) (F x.b),max (F x.a) (F x.b),x.m⟩
structure Ren (g h:G) (n:Nat) (F:Int->Int):Prop where
 c:checkG g=0
 nn:g.n=n
 c':checkG h=0
 nn':h.n=n
 rng: ∀v:Int,0≤v∧v<n->0≤F v∧F v<n
 inj: ∀u v:Int,0≤u∧u<n->0≤v∧v<n->F u=F v->u=v
 perm:h.es.Perm (g.es.map (nrm F))
def B1I (F:List Nat) (k:Nat):rootsN F k=((List.range k).filter fun v=>decide (F[v]? =some v)).length:=by
 induction k with
 | zero=>rfl
 | succ k ih=>
  simp only [rootsN];rw [ih,WQ,JV,Xv];by_cases h:F[k]? =some k<;>simp [h]
structure TourP (N:Nat) (f:Nat->Nat) (h0:Nat) (p:Nat->Nat):Prop where
 lt: ∀x,x<N->p x<N
 at_: ∀x,x<N->it f (p x) h0=x
 back: ∀i,i<N->p (it f i h0)=i
 pl: ∀i,it f i h0<N
 per:it f N h0=h0
 beg:h0<N
def C5j {N:Nat} {f:Nat->Nat} (hp:PermN N f) {h0:Nat} (h:h0<N) (hc: ∀x,x<N-> ∃i,x=it f i h0): ∃p,TourP N f h0 p:=by
 have hmod: ∀d,1≤d->it f d h0=h0-> ∀i,it f i h0=it f (i%d) h0:=fun d hd he i=>by
  have hk: ∀k,it f (d*k) h0=h0:=fun k=>by
   induction k with
   | zero=>rfl
   | succ k ih=>rw [Nat.mul_succ,A7P,he,ih]
  have:i=i%d+d*(i / d):=(Nat.mod_add_div i d).symm;have e:it f i h0=it f (i%d+d*(i / d)) h0:=by rw [<-this]
  rw [e,A7P,hk]
 have hmin: ∀d,1≤d->it f d h0=h0->N≤d:=fun d hd he=>by
  have:=YZ (l₁:=List.range N) (l₂:=(List.range d).map fun i=>it f i h0) Qx1 fun x hx=>by
   obtain ⟨i,hi⟩:=hc x (Xk.1 hx);exact QY.2 ⟨i%d,Xk.2 (VZ _ (by omega)),by rw [hi,<-hmod d hd he i]⟩
  simpa using this
 obtain ⟨P,p1,p2,p3⟩:=hp.period h;have hPN:P=N:=by have:=hmin P p1 p3; omega
 subst hPN;have hex: ∀x,∃i,x<P->i<P∧it f i h0=x:=fun x=>by
  by_cases hx:x<P
  ·obtain ⟨i,hi⟩:=hc x hx;exact ⟨i%P,fun _=>⟨VZ _ (by omega),by rw [<-hmod P p1 p3 i,<-hi]⟩⟩
  ·exact ⟨0,fun h=>absurd h hx⟩
 obtain ⟨p,hpp⟩:=Classical.axiomOfChoice hex;refine ⟨p,fun x hx=>(hpp x hx).1,fun x hx=>(hpp x hx).2,fun i hi=> ?_,fun i=>hp.it_lt h i,p3,h⟩;have hxl:=hp.it_lt h i;obtain ⟨q1,q2⟩:=hpp _ hxl;have main: ∀a b:Nat,a<b->b<P->it f a h0=it f b h0->False:=fun a b hab hb e=>by
  have e2:it f b h0=it f a (it f (b-a) h0):=by rw [<-A7P]; congr 1; omega
  rw [e2] at e;have:=hp.it_inj h (hp.it_lt h _) a e;have:=hmin (b-a) (by omega) this.symm;omega
 rcases Qw3 (p (it f i h0)) i with q | q | q
 ·exact (main _ _ q hi q2).elim
 ·exact q
 ·exact (main _ _ q q1 q2.symm).elim
def A91 (x:Nat):oppH (oppH x)=x:=by unfold oppH; omega
def C4c (x:Nat):oppH x / 2=x / 2:=by unfold oppH; omega
def A2V {x y:Nat} (h:x / 2=y / 2):x=y∨x=oppH y:=by unfold oppH; omega
def A92 {E x:Nat} (h:x<2*E):oppH x<2*E:=by unfold oppH; omega
def A09 (s:Nat->Nat) (t:Nat->Bool) (x:Nat):Nat:=if t (x / 2)=true then s (oppH x) else s x
structure STree (E n:Nat) (g:Nat->Nat) (t:Nat->Bool):Prop where
 tot:sumR (fun e=>if t e=true then 1 else 0) E=n-1
 few: ∀A:Nat->Bool,(∃v,v<n∧A v=true)->sumR (fun e=>if t e=true∧A (g (2*e))=true∧A (g (2*e+1))=true then 1 else 0) E≤sumR (fun v=>if A v=true then 1 else 0) n-1
 cut: ∀e,e<E->t e=true-> ∃A:Nat->Bool,A (g (2*e))=true∧A (g (2*e+1))=false∧ ∀f,f<E->t f=true->f≠e->A (g (2*f))=A (g (2*f+1))
def A93 (p:Nat->Nat) (e:Nat):Nat:=if p (2*e)<p (2*e+1) then 2*e else 2*e+1
def A6F (E:Nat) (g p:Nat->Nat) (t A:Nat->Bool):Int:=sumR (fun e=>if t e=false∧A (g (A93 p e))=true then 1 else 0) E
section
variable {E n:Nat} {s g:Nat->Nat} {t t':Nat->Bool} {p p':Nat->Nat} {h0:Nat}
def STree.cut' (h:STree E n g t) {x:Nat} (hx:x<2*E) (ht:t (x / 2)=true): ∃A:Nat->Bool,A (g x)=true∧A (g (oppH x))=false∧ ∀y,y<2*E->t (y / 2)=true->y / 2≠x / 2->A (g (oppH y))=A (g y):=by
 obtain ⟨A,h1,h2,h3⟩:=h.cut (x / 2) (by omega) ht;have key: ∀y,y<2*E->t (y / 2)=true->y / 2≠x / 2->A (g (oppH y))=A (g y):=fun y hy hty hne=>by
  have:=h3 (y / 2) (by omega) hty hne;rcases Vj y with e | e
  ·have e1:y=2*(y / 2):=by omega
   have e2:oppH y=2*(y / 2)+1:=by unfold oppH; omega
   rw [e2,<-this,<-e1]
  ·have e1:y=2*(y / 2)+1:=by omega
   have e2:oppH y=2*(y / 2):=by unfold oppH; omega
   rw [e2,this,<-e1]
 rcases Vj x with e | e
 ·have e1:2*(x / 2)=x:=by omega
  have e2:2*(x / 2)+1=oppH x:=by unfold oppH; omega
  rw [e1] at h1; rw [e2] at h2;exact ⟨A,h1,h2,key⟩
 ·have e1:2*(x / 2)+1=x:=by omega
  have e2:2*(x / 2)=oppH x:=by unfold oppH; omega
  rw [e1] at h2; rw [e2] at h1;exact ⟨fun v=> !A v,by dsimp only; rw [h2]; rfl,by dsimp only; rw [h1]; rfl,fun y hy hty hne=>by dsimp only; rw [key y hy hty hne]⟩
def STree.side (h:STree E n g t) (hg: ∀x,x<2*E->g x<n) {x:Nat} (hx:x<2*E) (ht:t (x / 2)=true) {A:Nat->Bool} (h1:A (g x)=true) (h2:A (g (oppH x))=false) (h3: ∀y,y<2*E->t (y / 2)=true->y / 2≠x / 2->A (g (oppH y))=A (g y)):
  sumR (fun e=>if t e=true∧A (g (2*e))=true∧A (g (2*e+1))=true then 1 else 0) E=sumR (fun v=>if A v=true then 1 else 0) n-1:=by
 have f1:=h.few A ⟨g x,hg x hx,h1⟩;have f2:=h.few (fun v=> !A v) ⟨g (oppH x),hg _ (A92 hx),by rw [h2]; rfl⟩;have e1:sumR (fun e=>if t e=true then 1 else 0) E=sumR (fun e=>(if t e=true∧A (g (2*e))=true∧A (g (2*e+1))=true then 1 else 0)+(if t e=true∧(!A (g (2*e)))=true∧(!A (g (2*e+1)))=true then 1 else 0)+if e=x / 2 then 1 else 0) E:=A0g fun e he=>by
  cases hte:t e with
  | false=>simp; rintro rfl; rw [ht] at hte; cases hte
  | true=>
   by_cases hex:e=x / 2
   ·subst hex;rcases Vj x with q | q
    ·have e1:2*(x / 2)=x:=by omega
     have e2:2*(x / 2)+1=oppH x:=by unfold oppH; omega
     rw [e2,e1,h1,h2]; simp
    ·have e1:2*(x / 2)+1=x:=by omega
     have e2:2*(x / 2)=oppH x:=by unfold oppH; omega
     rw [e1,e2,h1,h2]; simp
   ·have:=h3 (2*e) (by omega) (by rw [show 2*e / 2=e by omega]; exact hte) (by omega);have e2:oppH (2*e)=2*e+1:=by unfold oppH; omega
    rw [e2] at this;rw [this,if_neg hex];cases A (g (2*e))<;>rfl
 have e2:sumR (fun v=>if A v=true then 1 else 0) n+sumR (fun v=>if (!A v)=true then 1 else 0) n=n:=by
  rw [<-A02,A0g (g:=fun _=>1) fun v _=>by cases A v<;>rfl,A2b]; omega
 rw [h.tot,A02,A02,A0E _ _ (show x / 2<E by omega)] at e1;omega
def A73 (hk: ∀x,x<2*E->g (s x)=g x) {x h:Nat} (hx:x<2*E) {A:Nat->Bool} (h3: ∀y,y<2*E->t (y / 2)=true->y / 2≠h / 2->A (g (oppH y))=A (g y)) (hne:x / 2≠h / 2):A (g (A09 s t x))=A (g x):=by
 unfold A09;split
 ·rename_i ht;rw [hk _ (A92 hx)]; exact h3 x hx ht hne
 ·rw [hk x hx]
def C0a {a b a' b' i j0:Nat} {X Y u u':Bool} (hj:i<j0) (bx:X=false↔i<a∧a≤j0) (by_:Y=false↔i<b∧b≤j0) (sx:a≤i->u=u') (sy:b≤i->u=u') (p1x:a≤i->a'=a) (p1y:b≤i->b'=b) (p2x:i<a->i<a') (p2y:i<b->i<b') (hn:a≠b):
  (if u=false∧(if a<b then X else Y)=true then (1:Int) else 0)-(if u'=true∧X=true∧Y=true then 1 else 0)+(if u=true∧X=true∧Y=true then 1 else 0)+0≤if u'=false∧(if a'<b' then X else Y)=true then 1 else 0:=by
 have q1:=bx;have q2:=by_;cases X<;>cases Y<;>simp only [Bool.true_eq_false,false_iff,true_iff,Yk,and_false,and_true,and_self,if_false,if_true,ite_self] at*
 ·cases u<;>cases u'<;>decide
 ·by_cases h1:a<b
  ·rw [if_pos h1]; simp only [Yk,and_false,if_false];cases u<;>cases u'<;>simp<;>(repeat' split)<;>omega
  ·rw [if_neg h1];have h2: ¬a'<b':=by omega
   have:=sy (by omega);rw [if_neg h2,this]; cases u'<;>decide
 ·by_cases h1:a<b
  ·rw [if_pos h1];have h2:a'<b':=by omega
   have:=sx (by omega);rw [if_pos h2,this]; cases u'<;>decide
  ·rw [if_neg h1];cases u<;>cases u'<;>simp<;>(repeat' split)<;>omega
 ·cases u<;>cases u'<;>decide
def C0b (hk: ∀x,x<2*E->g (s x)=g x) (hg: ∀x,x<2*E->g x<n) (hT:STree E n g t) (hT':STree E n g t') (P:TourP (2*E) (A09 s t) h0 p) (P':TourP (2*E) (A09 s t') h0 p') {i:Nat} (hi:i<2*E)
  (hs: ∀j,j≤i->it (A09 s t) j h0=it (A09 s t') j h0) (hst: ∀j,j<i->t (it (A09 s t) j h0 / 2)=t' (it (A09 s t) j h0 / 2)) (h1:t (it (A09 s t) i h0 / 2)=true) (h2:t' (it (A09 s t) i h0 / 2)=false):
  ∃A:Nat->Bool,A6F E g p t A<A6F E g p' t' A:=by
 have hpi:=P.back i hi;have hpi':=P'.back i hi;rw [<-hs i (Qk _)] at hpi';have hhl:=P.pl i;have hstep: ∀j,it (A09 s t) (j+1) h0=A09 s t (it (A09 s t) j h0):=fun _=>rfl;generalize hh:it (A09 s t) i h0=h at*;obtain ⟨A,a1,a2,a3⟩:=hT.cut' hhl h1;have hne: ∀j,j<2*E->j≠i->j≠p (oppH h)->it (A09 s t) j h0 / 2≠h / 2:=fun j hj n1 n2 e=>by
  rcases A2V e with q | q
  ·have:=P.back j hj; rw [q] at this; omega
  ·have:=P.back j hj; rw [q] at this; omega
 have hol:=A92 hhl;have c1: ∀k,k≤i->A (g (it (A09 s t) (i-k) h0))=true:=by
  intro k
  induction k with
  | zero=>intro _; rw [Nat.sub_zero,hh]; exact a1
  | succ k ih=>
   intro hki;have:=ih (by omega);rw [show i-k=(i-(k+1))+1 by omega,hstep] at this;have hx:=P.pl (i-(k+1));have hn:it (A09 s t) (i-(k+1)) h0 / 2≠h / 2:=fun e=>by
    have:=hst (i-(k+1)) (by omega);rw [e,h1,h2] at this; cases this
   rwa [A73 (t:=t) hk hx a3 hn] at this
 have c1': ∀j,j≤i->A (g (it (A09 s t) j h0))=true:=fun j hj=>by
  have:=c1 (i-j) (by omega); rwa [show i-(i-j)=j by omega] at this
 have hj0:i<p (oppH h):=by
  refine QJ fun hc=> ?_;have:=c1' (p (oppH h)) (by omega);rw [P.at_ _ hol,a2] at this; cases this
 have hj0l:=P.lt _ hol;have c2: ∀k,i+1+k≤p (oppH h)->A (g (it (A09 s t) (i+1+k) h0))=false:=by
  intro k
  induction k with
  | zero=>
   intro _;have:it (A09 s t) (i+1+0) h0=s (oppH h):=by
    show A09 s t (it (A09 s t) i h0)=_;rw [hh]; unfold A09; rw [if_pos h1]
   rw [this,hk _ hol]; exact a2
  | succ k ih=>
   intro hkl;show A (g (A09 s t (it (A09 s t) (i+1+k) h0)))=false;rw [A73 (t:=t) hk (P.pl _) a3 (hne _ (by omega) (by omega) (by omega))];exact ih (by omega)
 have c3: ∀k,p (oppH h)+1+k<2*E->A (g (it (A09 s t) (p (oppH h)+1+k) h0))=true:=by
  intro k
  induction k with
  | zero=>
   intro _;have:it (A09 s t) (p (oppH h)+1+0) h0=s h:=by
    show A09 s t (it (A09 s t) (p (oppH h)) h0)=_;rw [P.at_ _ hol]; unfold A09; rw [C4c,if_pos h1,A91]
   rw [this,hk _ hhl]; exact a1
  | succ k ih=>
   intro hkl;show A (g (A09 s t (it (A09 s t) (p (oppH h)+1+k) h0)))=true;rw [A73 (t:=t) hk (P.pl _) a3 (hne _ (by omega) (by omega) (by omega))];exact ih (by omega)
 have hA: ∀x,x<2*E->(A (g x)=false↔i<p x∧p x≤p (oppH h)):=fun x hx=>by
  have hp:=P.at_ x hx;have hl:=P.lt x hx;constructor
  ·intro hf;by_cases q1:p x≤i
   ·have:=c1' _ q1; rw [hp,hf] at this; cases this
   ·by_cases q2:p x≤p (oppH h)
    ·omega
    ·have:=c3 (p x-(p (oppH h)+1)) (by omega);rw [show p (oppH h)+1+(p x-(p (oppH h)+1))=p x by omega,hp,hf] at this; cases this
  ·rintro ⟨q1,q2⟩;have:=c2 (p x-(i+1)) (by omega);rwa [show i+1+(p x-(i+1))=p x by omega,hp] at this
 have hp1: ∀x,x<2*E->p x≤i->p' x=p x:=fun x hx hle=>by
  have:=P'.back (p x) (P.lt x hx);rw [<-hs _ hle,P.at_ x hx] at this; exact this
 have hp2: ∀x,x<2*E->i<p x->i<p' x:=fun x hx hlt=>by
  refine QJ fun hc=> ?_;have:=P.back (p' x) (P'.lt x hx);rw [hs _ (by omega),P'.at_ x hx] at this; omega
 have hstx: ∀x,x<2*E->p x≤i->x / 2≠h / 2->t (x / 2)=t' (x / 2):=fun x hx hle hn=>by
  have hp:=P.at_ x hx;have:p x≠i:=fun e=>by rw [e,hh] at hp; exact hn (by rw [hp])
  have:=hst (p x) (by omega);rwa [hp] at this
 refine ⟨A,?_⟩;have s1:=hT.side hg hhl h1 a1 a2 a3;have s2:=hT'.few A ⟨g h,hg h hhl,a1⟩;have key: ∀f,f<E->(if t f=false∧A (g (A93 p f))=true then (1:Int) else 0)-(if t' f=true∧A (g (2*f))=true∧A (g (2*f+1))=true then 1 else 0)+(if t f=true∧A (g (2*f))=true∧A (g (2*f+1))=true then 1 else 0)+(if f=h / 2 then 1 else 0)≤if t' f=false∧A (g (A93 p' f))=true then 1 else 0:=fun f hf=>by
  have hx:2*f<2*E:=by omega
  have hy:2*f+1<2*E:=by omega
  have bx:=hA _ hx;have by_:=hA _ hy;have l1:=P.lt _ hx;have l2:=P.lt _ hy;by_cases hfe:f=h / 2
  ·rw [if_pos hfe];have ht:t f=true:=by rw [hfe]; exact h1
   have ht':t' f=false:=by rw [hfe]; exact h2
   have hfst:A93 p' f=h:=by
    have hp'h:p' h=i:=hpi';have hp'o:=hp2 _ hol hj0;unfold A93;rcases Vj h with q | q
    ·have e1:2*f=h:=by omega
     have e2:2*f+1=oppH h:=by unfold oppH; omega
     rw [e2,e1,if_pos (by omega)]
    ·have e1:2*f+1=h:=by omega
     have e2:2*f=oppH h:=by unfold oppH; omega
     rw [e1,e2,if_neg (by omega)]
   have hcr: ¬(A (g (2*f))=true∧A (g (2*f+1))=true):=fun ⟨q1,q2⟩=>by
    rcases Vj h with q | q
    ·have e2:2*f+1=oppH h:=by unfold oppH; omega
     rw [e2,a2] at q2; cases q2
    ·have e2:2*f=oppH h:=by unfold oppH; omega
     rw [e2,a2] at q1; cases q1
   rw [hfst,ht,ht',a1];simp [hcr]
  ·rw [if_neg hfe];have sx:=fun hle=>hstx _ hx hle (by omega);have sy:=fun hle=>hstx _ hy hle (by omega);rw [show 2*f / 2=f by omega] at sx;rw [show (2*f+1) / 2=f by omega] at sy;have p1x:=hp1 _ hx;have p1y:=hp1 _ hy;have p2x:=hp2 _ hx;have p2y:=hp2 _ hy;have hxy:p (2*f)≠p (2*f+1):=fun e=>by
    have e1:=P.at_ _ hx;have e2:=P.at_ _ hy;rw [e,e2] at e1; omega
   have F:A (g (A93 p f))=if p (2*f)<p (2*f+1) then A (g (2*f)) else A (g (2*f+1)):=by unfold A93; split<;>rfl
   have F':A (g (A93 p' f))=if p' (2*f)<p' (2*f+1) then A (g (2*f)) else A (g (2*f+1)):=by unfold A93; split<;>rfl
   rw [F,F'];exact C0a hj0 bx by_ sx sy p1x p1y p2x p2y hxy
 have:=A3J key;rw [A02,A02,A1M,A0E _ _ (show h / 2<E by omega)] at this;unfold A6F;omega
end
def zI (T:List Nat):List Int:=T.map fun x:Nat=>(x:Int)
def A3n (T:List Nat):(zI T).length=T.length:=by simp [zI]
def LI (L:List (Nat×Nat)):List (Int×Int):=L.map fun p=>((p.1:Int),(p.2:Int))
structure VX (s:BS) (j cap:Nat) (X:List Blk):Prop where
 vec:X[j]? =some (.box (fC s.opn++List.replicate (cap-s.opn.length) .any))
 cap:s.opn.length≤cap
 inn: ∀b,b∈X-> ∀m,blkIn m b
def B4L (ts:List Tree):chunks 1 ts.length ts=ts.map fun t=>[t]:=by
 have h:=Go.Sp.chunks_flatten (k:=1) (rows:=ts.map fun t=>[t]) (fun r hr=>by obtain ⟨t,_,rfl⟩:=QY.1 hr; rfl);have hf: ∀l:List Tree,(l.map fun t=>[t]).flatten=l:=fun l=>by
  induction l with
  | nil=>rfl
  | cons x l ih=>simp only [XY,List.flatten_cons,ih]; rfl
 rw [XW,hf] at h;exact h
open Go.Sp Go.RowKit
open Go.Sort (SWO)
def A1I:List Int->List Int->Int
 | [],[]=>0
 | [],_::_=> -1
 | _::_,[]=>1
 | x::a,y::b=>if A6f x y=0 then A1I a b else A6f x y
def A94 {x y:Int}:A6f x y=0↔x=y:=by unfold A6f; (repeat' split)<;>omega
def C2Y {x y:Int}:A6f x y<0↔x<y:=by unfold A6f; (repeat' split)<;>omega
def B0Q {a b:List Int} {i:Nat} {x y:Int} (ha:a[i]? =some x) (hb:b[i]? =some y):A1I (a.drop i) (b.drop i)=if A6f x y=0 then A1I (a.drop (i+1)) (b.drop (i+1)) else A6f x y:=by
 obtain ⟨h1,rfl⟩:=Qx.1 ha;obtain ⟨h2,rfl⟩:=Qx.1 hb;rw [Zk h1,Zk h2];rfl
def B3k {a b:List Int} {i:Nat} {x:Int} (ha:a[i]? =some x) (hb:b.length≤i):A1I (a.drop i) (b.drop i)=1:=by
 obtain ⟨h1,rfl⟩:=Qx.1 ha;rw [Zk h1,VY hb];rfl
def C0c {a b:List Int} {i:Nat} (ha:a.length=i) (hb:i≤b.length):A1I (a.drop i) (b.drop i)=if a.length<b.length then -1 else 0:=by
 rw [VY (by omega)];by_cases h:i<b.length
 ·rw [Zk h,if_pos (by omega)]; rfl
 ·rw [VY (by omega),if_neg (by omega)]; rfl
end
def ATf (L:List (Nat×Nat)):List (List Int):=(List.range 12).map fun v=>zI (atV L v)
def C5k (L:List (Nat×Nat)):(ATf L).length=12:=by simp [ATf]
def B4M (T:List Nat) (x:Nat):zI T++[(x:Int)]=zI (T++[x]):=by simp [zI]
@[simp] theorem C7K (L:List (Nat×Nat)):(chJ (ATf L)).take 12=chJ (ATf L):=A66 (by rw [C5k]; exact Qk _)
def B3l (es:List E):(A0f es).all A1b=true:=by
 rw [ZX]; intro r hr;obtain ⟨x,_,rfl⟩:=QY.1 hr; rfl
def C0d (l:List Int):(A0l l).all A1b=true:=by
 rw [ZX]; intro r hr;obtain ⟨x,_,rfl⟩:=QY.1 hr; rfl
def B5V {l:List (List Int)} {r:List Tree} (h:r∈A0n l):B15 r:=by
 obtain ⟨x,_,rfl⟩:=QY.1 h;intro t ht;rw [XQ] at ht;subst ht;exact ⟨_,rfl,C0d x⟩
def B5W {l:List Blk} (h: ∀b,b∈l->B7c b) (id:Nat) (blk:Blk) (hb:l[id]? =some blk):B7c blk:=h blk (Qv hb)
def A0L {n q m:Nat} {es:List E} (hm:4≤m):blkIn m (.roC [.tree (.int .i64 (n:Int)),.tree (.slice (A0f es)),.tree (.int .i64 (q:Int)),.ref 2 1 0 n n,.ref 3 1 0 n n,.tree (.int .i64 0)]):=by
 intro c hc;simp only [QV,XJ,or_false] at hc;rcases hc with rfl | rfl | rfl | rfl | rfl | rfl<;>first | exact Qv3 | (show _<_; omega)
def A0O {m:Nat} {F:List Bool}:Go.Sp.cellsIn m (bC F):=A1g fun _=>Qv3
def C0e {d:List Int} (h:d≠[]):iC d≠[]:=by cases d<;>simp_all [iC]
def C7L {d:List Bool} (h:d≠[]):bC d≠[]:=by cases d<;>simp_all [bC]
def B3m {l:List (Int×Int)} {n:Nat} (hn:n=2) (k:Nat) (ts:List TVal) (h:(A67 l)[k]? =some ts):ts.length=n:=by
 obtain ⟨p,_,rfl⟩:=A7v h; exact hn.symm
def A74 {es:List E} {v:Int} {x:Int×Int} (h:x∈lnkL es v): ∃e,e∈es∧x.2=e.m∧e.a≠e.b∧((e.a=v∧x.1=e.b)∨(e.b=v∧x.1=e.a)):=by
 unfold lnkL at h;obtain ⟨e,he,h⟩:=List.mem_filterMap.1 h;unfold C25 at h;split at h
 ·rename_i hc;cases h;refine ⟨e,he,rfl,hc.1,?_⟩;rcases hc.2 with q | q
  ·exact .inl ⟨q,by simp only; omega⟩
  ·exact .inr ⟨q,by simp only; omega⟩
 ·cases h
def C2Z (es:List E) (v:Int):(lnkL es v).length≤es.length:=List.length_filterMap_le _ _
def C6M (n q:Nat) (es:List E) (d s:List Int) (R:List Bool):A1N 7 [.box [.int .i64 (n:Int),.slice (A0f es) .none],.ro [.int .i64 (n:Int),.slice (A0f es)],.box (iC d),.box (iC s),.roC [.tree (.int .i64 (n:Int)),.tree (.slice (A0f es)),.tree (.int .i64 (q:Int)),.ref 2 1 0 n n,.ref 3 1 0 n n,.tree (.int .i64 0)],.box (bC R),.box [.ref 5 1 0 n n]]:=by
 have hg:blkIn 7 (.box [.int .i64 (n:Int),.slice (A0f es) .none]):=by intro c hc; simp only [QV,XJ,or_false] at hc; rcases hc with rfl | rfl<;>exact Qv3
 exact A04 hg (A04 Qv3 (A04 A0V (A04 A0V (A04 (A0L (by decide)) (A04 (A0O (F:=R)) (A04 (A1e (show 5<7 by decide) (A1p _)) (A15 _)))))))
def joinL (p:Int->Bool) (l:List (Int×Int)):Int:=l.foldl (fun a x=>if p x.1=true then a+x.2 else a) 0
def B0R (p:Int->Bool) (l:List (Int×Int)) (x:Int×Int):joinL p (l++[x])=if p x.1=true then joinL p l+x.2 else joinL p l:=by simp [joinL]
def B4N (p:Int->Bool) {l:List (Int×Int)} (h: ∀x,x∈l->0≤x.2∧x.2≤50):0≤joinL p l∧joinL p l≤50*l.length:=by
 revert h;refine A3B (P:=fun l=>(∀x,x∈l->0≤x.2∧x.2≤50)->0≤joinL p l∧joinL p l≤50*l.length) ?_ ?_ l
 ·intro _; exact ⟨Jj _,Jj _⟩
 ·intro l x ih h;have:=ih fun y hy=>h y (by simp [hy]);have:=h x (by simp);rw [B0R,Xv,List.length_singleton];split<;>omega
def C0f {H:List Blk} (n q:Nat) (es:List E) (v:Int) (h4:H[4]? =some (.roC [.tree (.int .i64 (n:Int)),.tree (.slice (A0f es)),.tree (.int .i64 (q:Int)),.ref 2 1 0 n n,.ref 3 1 0 n n,.tree (.int .i64 0)])):
  ACallH Tryz.prog 185 H [.c (.ptr 4 0),.c (.int .i64 v)] H (ofT (.t (.fn 201 [.rptr [.rptr [.int .i64 n,.slice (A0f es)]],.rptr [.int .i64 v]]))):=by
 refine ACall.hC (C26 n es v) rfl (fun ι σ w hH j x t u h1 h2 h3=> ?_)
 match j,h1,h2 with
 | 0,h1,h2=>
  simp at h1 h2; subst h1; subst h2;exact C2q hH h4 rfl h3
 | 1,h1,h2=>
  simp at h1 h2; subst h1; subst h2;cases h3; exact .int _ _
 | j+2,h1,h2=>simp at h1
def B79 (n q:Nat) (es:List E) (d s:List Int) (R:List Bool) (hd:d≠[]) (hs:s≠[]) (hR:R≠[]) (hl:es.length<2^20) (hm: ∀e,e∈es->(0≤e.a∧e.a<2^40)∧(0≤e.b∧e.b<2^40)∧0≤e.m∧e.m≤50) (v:Int) (hv:0≤v∧v<2^40) (f:FuncId) (p:Int->Bool)
  (hp: ∀(B:List Blk) u k,(u,k)∈lnkL es v->ACallH Tryz.prog f ([.box [.int .i64 (n:Int),.slice (A0f es) .none],.ro [.int .i64 (n:Int),.slice (A0f es)],.box (iC d),.box (iC s),.roC [.tree (.int .i64 (n:Int)),.tree (.slice (A0f es)),.tree (.int .i64 (q:Int)),.ref 2 1 0 n n,.ref 3 1 0 n n,.tree (.int .i64 0)],.box (bC R),.box [.ref 5 1 0 n n]]++B) [.c (.int .i64 u),.c (.ptr 6 0)] ([.box [.int .i64 (n:Int),.slice (A0f es) .none],.ro [.int .i64 (n:Int),.slice (A0f es)],.box (iC d),.box (iC s),.roC [.tree (.int .i64 (n:Int)),.tree (.slice (A0f es)),.tree (.int .i64 (q:Int)),.ref 2 1 0 n n,.ref 3 1 0 n n,.tree (.int .i64 0)],.box (bC R),.box [.ref 5 1 0 n n]]++B) (.c (.bool (p u)))):
  ACallH Tryz.prog 161 [.box [.int .i64 (n:Int),.slice (A0f es) .none],.ro [.int .i64 (n:Int),.slice (A0f es)],.box (iC d),.box (iC s),.roC [.tree (.int .i64 (n:Int)),.tree (.slice (A0f es)),.tree (.int .i64 (q:Int)),.ref 2 1 0 n n,.ref 3 1 0 n n,.tree (.int .i64 0)],.box (bC R),.box [.ref 5 1 0 n n]] [.c (.ptr 4 0),.c (.int .i64 v),.c (.fn f [.ptr 6 0])] ([.box [.int .i64 (n:Int),.slice (A0f es) .none],.ro [.int .i64 (n:Int),.slice (A0f es)],.box (iC d),.box (iC s),.roC [.tree (.int .i64 (n:Int)),.tree (.slice (A0f es)),.tree (.int .i64 (q:Int)),.ref 2 1 0 n n,.ref 3 1 0 n n,.tree (.int .i64 0)],.box (bC R),.box [.ref 5 1 0 n n]]++[.box [.fn f [.ptr 6 0]],.box [.int .i64 (joinL p (lnkL es v))]]) (.c (.int .i64 (joinL p (lnkL es v)))):=by
 have hI:=B3a n es v (by omega) (fun e he=>by have:=hm e he; exact ⟨this.1,this.2.1⟩) hv;have hlk:=fun H h4=>C0f (H:=H) n q es v h4;have hdn:=C0e hd;have hsn:=C0e hs;have hRn:=C7L hR;have hkb: ∀x,x∈lnkL es v->0≤x.2∧x.2≤50:=fun x hx=>by
  obtain ⟨e,he,h1,_⟩:=A74 hx;have:=hm e he; rw [h1]; exact this.2.2
 have hll:(lnkL es v).length<2^20:=by have:=C2Z es v; omega
 simp only [List.cons_append,List.nil_append] at hp ⊢;refine ACallH.of_body Tryz.func161 rfl (by kernel_rfl) ?_;simp only [entry,Tryz.ntmps161,List.length_cons,List.length_nil,Nat.reduceAdd,Nat.reduceSub,List.replicate_succ,List.replicate_zero,List.cons_append,List.nil_append]
 repeat' (first|((first|(refine zT ?_;intro K' hK')|(refine zG ?_ ?_<;>(try refine zH ?_)<;>intro hguard<;>(try exact zX)<;>try intro K' hK'))<;>((try simp+contextual only [go_sem,ofT,A3v,A0v,XY,ZQ]);(repeat' first|(with_reducible refine hK' _ _ ?_;clear hK' K')|((with_reducible first|refine ⟨_,_,hlk _ rfl,?_⟩|refine ⟨_,hlk _ rfl,?_⟩);try simp+contextual only [go_sem,ofT,A3v,A0v,XY,ZQ])|exact zY|with_reducible refine Qv4 ?_ ?_|(with_reducible intro hpath;try exact zP)|(refine hK' _ _ ?_;clear hK' K')|fail);try refine zS ?_))|(refine zE ?_;refine hK _ _ ?_;clear hK K)|(refine zN ?_;try refine zS ?_)|refine zA ?_|(refine zB ?_;intro K hK)|(refine zC ?_ ?_<;>(try refine zH ?_)<;>intro hcond<;>try exact zX)|fail)
 refine AWp.weak (Weak.head (m:=9) (by omega) ((fun t f=>[f,f,f,f,f,t,f,t,f,f,f,f,t,f,f,f,f,f,f,f,f,f]) true false) (by first | rfl | simp [mask]) (by first | rfl | simp) (zWs Qv5) (zWs (zc @A0V (zc @A0O @A0L)))) (AWp.rangeFunc (fun k H=>H=[.box [.int .i64 (n:Int),.slice (A0f es) .none],.ro [.int .i64 (n:Int),.slice (A0f es)],.box (iC d),.box (iC s),.roC [.tree (.int .i64 (n:Int)),.tree (.slice (A0f es)),.tree (.int .i64 (q:Int)),.ref 2 1 0 n n,.ref 3 1 0 n n,.tree (.int .i64 0)],.box (bC R),.box [.ref 5 1 0 n n],.box [.fn f [.ptr 6 0]],.box [.int .i64 (joinL p ((lnkL es v).take k))]]∧(True)) (fun _ _=>False) 9 rfl (hI) (B3m rfl) (by omega) (zWs Qv5) (by rintro _ _ ⟨rfl,-⟩; simp [hdn,hsn,hRn]) (fun _ _ h=>h.elim) ?_ (fun l k ts H hts hI=> ?_) (fun H hI=> ?_) (fun e H h=>h.elim))
 ·exact ⟨rfl,trivial⟩
 ·obtain ⟨rfl,-⟩:=hI;obtain ⟨x,hx,rfl⟩:=A7v hts;have hk:k<(lnkL es v).length:=(Qx.1 hx).1;have hxm:=Qv hx;have hkx:=hkb x hxm;have hnx:=B0R p ((lnkL es v).take k) x;rw [<-take_snoc hx] at hnx;have hb:=B4N p (l:=(lnkL es v).take k) (fun y hy=>hkb y (JZ hy));rw [Wk] at hb;have hpx:=hp [.box [.fn f [.ptr 6 0]],.box [.int .i64 (joinL p ((lnkL es v).take k))]] x.1 x.2 hxm;generalize joinL p ((lnkL es v).take k)=a at*;generalize hnk:joinL p ((lnkL es v).take (k+1))=a2 at*;obtain ⟨u,m⟩:=x;simp only at hpx hnx hkx ⊢;simp only [mask,A45,List.zip_cons_cons,WV,List.zip_nil_left,List.foldl_cons,List.foldl_nil,List.set_cons_succ,List.set_cons_zero,ofT,A3v,A0v,XY,ZQ,ofT,A3v,toT,A0p,A0a,A0j,A0q,A3w,tG,A06,A0k,B0D];cases hb2:p u with
  | true=>
   rw [hb2] at hpx;rw [hb2,if_pos rfl] at hnx;refine zJ Qv5 Qv5 Qv5 (zc hpx Qv5) Qv5 ?_;refine ⟨⟨_,_⟩,Weak.head2 (m:=9) (by decide) ((fun t f=>[f,f,f,f,f,f,f,f,f,f,f,f,f,f,f,f,f,f,f,f,f,f]) true false) rfl rfl (zWs (zc @A0V (zc @A0O @A0L))),?_,?_⟩
   ·rw [hnk,hnx]; rfl
   ·trivial
  | false=>
   rw [hb2] at hpx;rw [hb2,if_neg (by simp)] at hnx;refine zJ Qv5 Qv5 Qv5 (zc hpx Qv5) Qv5 ?_;refine ⟨⟨_,_⟩,Weak.head2 (m:=9) (by decide) ((fun t f=>[f,f,f,f,f,f,f,f,f,f,f,f,f,f,f,f,f,f,f,f,f,f]) true false) rfl rfl (zWs (zc @A0V (zc @A0O @A0L))),?_,?_⟩
   ·rw [hnk,hnx]; rfl
   ·trivial
 ·obtain ⟨rfl,-⟩:=hI;rw [A7u,Zz];simp only [mask];refine zR Qv5 Qv5 Qv5 ?_;simp [A4Q,A2f,A0o,A2e,Tryz.results161]
def C0g (n q:Nat) (es:List E) (d s:List Int) (R:List Bool) (hd:d≠[]) (hs:s≠[]) (hR:R≠[]) (hl:es.length<2^20) (hm: ∀e,e∈es->(0≤e.a∧e.a<2^40)∧(0≤e.b∧e.b<2^40)∧0≤e.m∧e.m≤50) (v:Int) (hv:0≤v∧v<2^40) (f:FuncId) (p:Int->Bool)
  (hp: ∀(B:List Blk) u k,(u,k)∈lnkL es v->ACallH Tryz.prog f ([.box [.int .i64 (n:Int),.slice (A0f es) .none],.ro [.int .i64 (n:Int),.slice (A0f es)],.box (iC d),.box (iC s),.roC [.tree (.int .i64 (n:Int)),.tree (.slice (A0f es)),.tree (.int .i64 (q:Int)),.ref 2 1 0 n n,.ref 3 1 0 n n,.tree (.int .i64 0)],.box (bC R),.box [.ref 5 1 0 n n]]++B) [.c (.int .i64 u),.c (.ptr 6 0)] ([.box [.int .i64 (n:Int),.slice (A0f es) .none],.ro [.int .i64 (n:Int),.slice (A0f es)],.box (iC d),.box (iC s),.roC [.tree (.int .i64 (n:Int)),.tree (.slice (A0f es)),.tree (.int .i64 (q:Int)),.ref 2 1 0 n n,.ref 3 1 0 n n,.tree (.int .i64 0)],.box (bC R),.box [.ref 5 1 0 n n]]++B) (.c (.bool (p u)))):
  ACallH Tryz.prog 161 [.box [.int .i64 (n:Int),.slice (A0f es) .none],.ro [.int .i64 (n:Int),.slice (A0f es)],.box (iC d),.box (iC s),.roC [.tree (.int .i64 (n:Int)),.tree (.slice (A0f es)),.tree (.int .i64 (q:Int)),.ref 2 1 0 n n,.ref 3 1 0 n n,.tree (.int .i64 0)],.box (bC R),.box [.ref 5 1 0 n n]] [.c (.ptr 4 0),.c (.int .i64 v),.c (.fn f [.ptr 6 0])] [.box [.int .i64 (n:Int),.slice (A0f es) .none],.ro [.int .i64 (n:Int),.slice (A0f es)],.box (iC d),.box (iC s),.roC [.tree (.int .i64 (n:Int)),.tree (.slice (A0f es)),.tree (.int .i64 (q:Int)),.ref 2 1 0 n n,.ref 3 1 0 n n,.tree (.int .i64 0)],.box (bC R),.box [.ref 5 1 0 n n]] (.c (.int .i64 (joinL p (lnkL es v)))):=
 (B79 n q es d s R hd hs hR hl hm v hv f p hp).trim (Qk _) Qv3 (C6M n q es d s R)
end Go.Proofs.YtdbdfkohpjefjaaGreat
