/- A part of the proof. -/
import Derived.Test.YtdbdfkohpjefjaaGreatPart12
import Derived.Test.YtdbdfkohpjefjaaGreatPart11
import Derived.Test.YtdbdfkohpjefjaaGreatPart10
set_option linter.all false
set_option maxHeartbeats 4000000
set_option maxRecDepth 100000
namespace Go.Proofs.YtdbdfkohpjefjaaGreat
open Go.Sp
structure PermL (n:Nat) (l:List Int):Prop where
 len:l.length=n
 rng: ∀x,x∈l->0≤x∧x<n
 nd:l.Nodup
def nrm (F:Int->Int) (x:E):E:=⟨min (F x.a) (F x.b),max (F x.a) (F x.b),x.m⟩
structure Ren (g h:G) (n:Nat) (F:Int->Int):Prop where
 c:checkG g=0
 nn:g.n=n
 c':checkG h=0
 nn':h.n=n
 rng: ∀v:Int,0≤v∧v<n->0≤F v∧F v<n
 inj: ∀u v:Int,0≤u∧u<n->0≤v∧v<n->F u=F v->u=v
 perm:h.es.Perm (g.es.map (nrm F))
def B14 (F:List Nat) (k:Nat):rootsN F k=((List.range k).filter fun v=>decide (F[v]? =some v)).length:=by
 induction k with
 | zero=>rfl
 | succ k ih=>
  simp only [rootsN];rw [ih,WX,JV,Xv];by_cases h:F[k]? =some k<;>simp [h]
structure TourP (N:Nat) (f:Nat->Nat) (h0:Nat) (p:Nat->Nat):Prop where
 lt: ∀x,x<N->p x<N
 at_: ∀x,x<N->it f (p x) h0=x
 back: ∀i,i<N->p (it f i h0)=i
 pl: ∀i,it f i h0<N
 per:it f N h0=h0
 beg:h0<N
def C4F {N:Nat} {f:Nat->Nat} (hp:PermN N f) {h0:Nat} (h:h0<N) (hc: ∀x,x<N-> ∃i,x=it f i h0): ∃p,TourP N f h0 p:=by
 have hmod: ∀d,1≤d->it f d h0=h0-> ∀i,it f i h0=it f (i%d) h0:=fun d hd he i=>by
  have hk: ∀k,it f (d*k) h0=h0:=fun k=>by
   induction k with
   | zero=>rfl
   | succ k ih=>rw [Nat.mul_succ,A7H,he,ih]
  have:i=i%d+d*(i / d):=(Nat.mod_add_div i d).symm;have e:it f i h0=it f (i%d+d*(i / d)) h0:=by rw [<-this]
  rw [e,A7H,hk]
 have hmin: ∀d,1≤d->it f d h0=h0->N≤d:=fun d hd he=>by
  have:=YZ (l₁:=List.range N) (l₂:=(List.range d).map fun i=>it f i h0) Qq8 fun x hx=>by
   obtain ⟨i,hi⟩:=hc x (Xy.1 hx);exact QJ.2 ⟨i%d,Xy.2 (VZ _ (by omega)),by rw [hi,<-hmod d hd he i]⟩
  simpa using this
 obtain ⟨P,p1,p2,p3⟩:=hp.period h;have hPN:P=N:=by have:=hmin P p1 p3; omega
 subst hPN;have hex: ∀x,∃i,x<P->i<P∧it f i h0=x:=fun x=>by
  by_cases hx:x<P
  ·obtain ⟨i,hi⟩:=hc x hx;exact ⟨i%P,fun _=>⟨VZ _ (by omega),by rw [<-hmod P p1 p3 i,<-hi]⟩⟩
  ·exact ⟨0,fun h=>absurd h hx⟩
 obtain ⟨p,hpp⟩:=Classical.axiomOfChoice hex;refine ⟨p,fun x hx=>(hpp x hx).1,fun x hx=>(hpp x hx).2,fun i hi=> ?_,fun i=>hp.it_lt h i,p3,h⟩;have hxl:=hp.it_lt h i;obtain ⟨q1,q2⟩:=hpp _ hxl;have main: ∀a b:Nat,a<b->b<P->it f a h0=it f b h0->False:=fun a b hab hb e=>by
  have e2:it f b h0=it f a (it f (b-a) h0):=by rw [<-A7H]; congr 1; omega
  rw [e2] at e;have:=hp.it_inj h (hp.it_lt h _) a e;have:=hmin (b-a) (by omega) this.symm;omega
 rcases Qw2 (p (it f i h0)) i with q | q | q
 ·exact (main _ _ q hi q2).elim
 ·exact q
 ·exact (main _ _ q q1 q2.symm).elim
def A9z (x:Nat):oppH (oppH x)=x:=by unfold oppH; omega
def C38 (x:Nat):oppH x / 2=x / 2:=by unfold oppH; omega
def A2V {x y:Nat} (h:x / 2=y / 2):x=y∨x=oppH y:=by unfold oppH; omega
def A90 {E x:Nat} (h:x<2*E):oppH x<2*E:=by unfold oppH; omega
def A0I (s:Nat->Nat) (t:Nat->Bool) (x:Nat):Nat:=if t (x / 2)=true then s (oppH x) else s x
structure STree (E n:Nat) (g:Nat->Nat) (t:Nat->Bool):Prop where
 tot:sumR (fun e=>if t e=true then 1 else 0) E=n-1
 few: ∀A:Nat->Bool,(∃v,v<n∧A v=true)->sumR (fun e=>if t e=true∧A (g (2*e))=true∧A (g (2*e+1))=true then 1 else 0) E≤sumR (fun v=>if A v=true then 1 else 0) n-1
 cut: ∀e,e<E->t e=true-> ∃A:Nat->Bool,A (g (2*e))=true∧A (g (2*e+1))=false∧ ∀f,f<E->t f=true->f≠e->A (g (2*f))=A (g (2*f+1))
def A9S (p:Nat->Nat) (e:Nat):Nat:=if p (2*e)<p (2*e+1) then 2*e else 2*e+1
def A6G (E:Nat) (g p:Nat->Nat) (t A:Nat->Bool):Int:=sumR (fun e=>if t e=false∧A (g (A9S p e))=true then 1 else 0) E
section
variable {E n:Nat} {s g:Nat->Nat} {t t':Nat->Bool} {p p':Nat->Nat} {h0:Nat}
def STree.cut' (h:STree E n g t) {x:Nat} (hx:x<2*E) (ht:t (x / 2)=true): ∃A:Nat->Bool,A (g x)=true∧A (g (oppH x))=false∧ ∀y,y<2*E->t (y / 2)=true->y / 2≠x / 2->A (g (oppH y))=A (g y):=by
 obtain ⟨A,h1,h2,h3⟩:=h.cut (x / 2) (by omega) ht;have key: ∀y,y<2*E->t (y / 2)=true->y / 2≠x / 2->A (g (oppH y))=A (g y):=fun y hy hty hne=>by
  have:=h3 (y / 2) (by omega) hty hne;rcases Vz y with e | e
  ·have e1:y=2*(y / 2):=by omega
   have e2:oppH y=2*(y / 2)+1:=by unfold oppH; omega
   rw [e2,<-this,<-e1]
  ·have e1:y=2*(y / 2)+1:=by omega
   have e2:oppH y=2*(y / 2):=by unfold oppH; omega
   rw [e2,this,<-e1]
 rcases Vz x with e | e
 ·have e1:2*(x / 2)=x:=by omega
  have e2:2*(x / 2)+1=oppH x:=by unfold oppH; omega
  rw [e1] at h1; rw [e2] at h2;exact ⟨A,h1,h2,key⟩
 ·have e1:2*(x / 2)+1=x:=by omega
  have e2:2*(x / 2)=oppH x:=by unfold oppH; omega
  rw [e1] at h2; rw [e2] at h1;exact ⟨fun v=> !A v,by dsimp only; rw [h2]; rfl,by dsimp only; rw [h1]; rfl,fun y hy hty hne=>by dsimp only; rw [key y hy hty hne]⟩
def STree.side (h:STree E n g t) (hg: ∀x,x<2*E->g x<n) {x:Nat} (hx:x<2*E) (ht:t (x / 2)=true) {A:Nat->Bool} (h1:A (g x)=true) (h2:A (g (oppH x))=false) (h3: ∀y,y<2*E->t (y / 2)=true->y / 2≠x / 2->A (g (oppH y))=A (g y)):
  sumR (fun e=>if t e=true∧A (g (2*e))=true∧A (g (2*e+1))=true then 1 else 0) E=sumR (fun v=>if A v=true then 1 else 0) n-1:=by
 have f1:=h.few A ⟨g x,hg x hx,h1⟩;have f2:=h.few (fun v=> !A v) ⟨g (oppH x),hg _ (A90 hx),by rw [h2]; rfl⟩;have e1:sumR (fun e=>if t e=true then 1 else 0) E=sumR (fun e=>(if t e=true∧A (g (2*e))=true∧A (g (2*e+1))=true then 1 else 0)+(if t e=true∧(!A (g (2*e)))=true∧(!A (g (2*e+1)))=true then 1 else 0)+if e=x / 2 then 1 else 0) E:=A0g fun e he=>by
  cases hte:t e with
  | false=>simp; rintro rfl; rw [ht] at hte; cases hte
  | true=>
   by_cases hex:e=x / 2
   ·subst hex;rcases Vz x with q | q
    ·have e1:2*(x / 2)=x:=by omega
     have e2:2*(x / 2)+1=oppH x:=by unfold oppH; omega
     rw [e2,e1,h1,h2]; simp
    ·have e1:2*(x / 2)+1=x:=by omega
     have e2:2*(x / 2)=oppH x:=by unfold oppH; omega
     rw [e1,e2,h1,h2]; simp
   ·have:=h3 (2*e) (by omega) (by rw [show 2*e / 2=e by omega]; exact hte) (by omega);have e2:oppH (2*e)=2*e+1:=by unfold oppH; omega
    rw [e2] at this;rw [this,if_neg hex];cases A (g (2*e))<;>rfl
 have e2:sumR (fun v=>if A v=true then 1 else 0) n+sumR (fun v=>if (!A v)=true then 1 else 0) n=n:=by
  rw [<-A06,A0g (g:=fun _=>1) fun v _=>by cases A v<;>rfl,A1Z]; omega
 rw [h.tot,A06,A06,A0O _ _ (show x / 2<E by omega)] at e1;omega
def A70 (hk: ∀x,x<2*E->g (s x)=g x) {x h:Nat} (hx:x<2*E) {A:Nat->Bool} (h3: ∀y,y<2*E->t (y / 2)=true->y / 2≠h / 2->A (g (oppH y))=A (g y)) (hne:x / 2≠h / 2):A (g (A0I s t x))=A (g x):=by
 unfold A0I;split
 ·rename_i ht;rw [hk _ (A90 hx)]; exact h3 x hx ht hne
 ·rw [hk x hx]
def B9G {a b a' b' i j0:Nat} {X Y u u':Bool} (hj:i<j0) (bx:X=false↔i<a∧a≤j0) (by_:Y=false↔i<b∧b≤j0) (sx:a≤i->u=u') (sy:b≤i->u=u') (p1x:a≤i->a'=a) (p1y:b≤i->b'=b) (p2x:i<a->i<a') (p2y:i<b->i<b') (hn:a≠b):
  (if u=false∧(if a<b then X else Y)=true then (1:Int) else 0)-(if u'=true∧X=true∧Y=true then 1 else 0)+(if u=true∧X=true∧Y=true then 1 else 0)+0≤if u'=false∧(if a'<b' then X else Y)=true then 1 else 0:=by
 have q1:=bx;have q2:=by_;cases X<;>cases Y<;>simp only [Bool.true_eq_false,false_iff,true_iff,Yk,and_false,and_true,and_self,if_false,if_true,ite_self] at*
 ·cases u<;>cases u'<;>decide
 ·by_cases h1:a<b
  ·rw [if_pos h1]; simp only [Yk,and_false,if_false];cases u<;>cases u'<;>simp<;>(repeat' split)<;>omega
  ·rw [if_neg h1];have h2: ¬a'<b':=by omega
   have:=sy (by omega);rw [if_neg h2,this]; cases u'<;>decide
 ·by_cases h1:a<b
  ·rw [if_pos h1];have h2:a'<b':=by omega
   have:=sx (by omega);rw [if_pos h2,this]; cases u'<;>decide
  ·rw [if_neg h1];cases u<;>cases u'<;>simp<;>(repeat' split)<;>omega
 ·cases u<;>cases u'<;>decide
def B9H (hk: ∀x,x<2*E->g (s x)=g x) (hg: ∀x,x<2*E->g x<n) (hT:STree E n g t) (hT':STree E n g t') (P:TourP (2*E) (A0I s t) h0 p) (P':TourP (2*E) (A0I s t') h0 p') {i:Nat} (hi:i<2*E)
  (hs: ∀j,j≤i->it (A0I s t) j h0=it (A0I s t') j h0) (hst: ∀j,j<i->t (it (A0I s t) j h0 / 2)=t' (it (A0I s t) j h0 / 2)) (h1:t (it (A0I s t) i h0 / 2)=true) (h2:t' (it (A0I s t) i h0 / 2)=false):
  ∃A:Nat->Bool,A6G E g p t A<A6G E g p' t' A:=by
 have hpi:=P.back i hi;have hpi':=P'.back i hi;rw [<-hs i (QQ _)] at hpi';have hhl:=P.pl i;have hstep: ∀j,it (A0I s t) (j+1) h0=A0I s t (it (A0I s t) j h0):=fun _=>rfl;generalize hh:it (A0I s t) i h0=h at*;obtain ⟨A,a1,a2,a3⟩:=hT.cut' hhl h1;have hne: ∀j,j<2*E->j≠i->j≠p (oppH h)->it (A0I s t) j h0 / 2≠h / 2:=fun j hj n1 n2 e=>by
  rcases A2V e with q | q
  ·have:=P.back j hj; rw [q] at this; omega
  ·have:=P.back j hj; rw [q] at this; omega
 have hol:=A90 hhl;have c1: ∀k,k≤i->A (g (it (A0I s t) (i-k) h0))=true:=by
  intro k
  induction k with
  | zero=>intro _; rw [Nat.sub_zero,hh]; exact a1
  | succ k ih=>
   intro hki;have:=ih (by omega);rw [show i-k=(i-(k+1))+1 by omega,hstep] at this;have hx:=P.pl (i-(k+1));have hn:it (A0I s t) (i-(k+1)) h0 / 2≠h / 2:=fun e=>by
    have:=hst (i-(k+1)) (by omega);rw [e,h1,h2] at this; cases this
   rwa [A70 (t:=t) hk hx a3 hn] at this
 have c1': ∀j,j≤i->A (g (it (A0I s t) j h0))=true:=fun j hj=>by
  have:=c1 (i-j) (by omega); rwa [show i-(i-j)=j by omega] at this
 have hj0:i<p (oppH h):=by
  refine Xq fun hc=> ?_;have:=c1' (p (oppH h)) (by omega);rw [P.at_ _ hol,a2] at this; cases this
 have hj0l:=P.lt _ hol;have c2: ∀k,i+1+k≤p (oppH h)->A (g (it (A0I s t) (i+1+k) h0))=false:=by
  intro k
  induction k with
  | zero=>
   intro _;have:it (A0I s t) (i+1+0) h0=s (oppH h):=by
    show A0I s t (it (A0I s t) i h0)=_;rw [hh]; unfold A0I; rw [if_pos h1]
   rw [this,hk _ hol]; exact a2
  | succ k ih=>
   intro hkl;show A (g (A0I s t (it (A0I s t) (i+1+k) h0)))=false;rw [A70 (t:=t) hk (P.pl _) a3 (hne _ (by omega) (by omega) (by omega))];exact ih (by omega)
 have c3: ∀k,p (oppH h)+1+k<2*E->A (g (it (A0I s t) (p (oppH h)+1+k) h0))=true:=by
  intro k
  induction k with
  | zero=>
   intro _;have:it (A0I s t) (p (oppH h)+1+0) h0=s h:=by
    show A0I s t (it (A0I s t) (p (oppH h)) h0)=_;rw [P.at_ _ hol]; unfold A0I; rw [C38,if_pos h1,A9z]
   rw [this,hk _ hhl]; exact a1
  | succ k ih=>
   intro hkl;show A (g (A0I s t (it (A0I s t) (p (oppH h)+1+k) h0)))=true;rw [A70 (t:=t) hk (P.pl _) a3 (hne _ (by omega) (by omega) (by omega))];exact ih (by omega)
 have hA: ∀x,x<2*E->(A (g x)=false↔i<p x∧p x≤p (oppH h)):=fun x hx=>by
  have hp:=P.at_ x hx;have hl:=P.lt x hx;constructor
  ·intro hf;by_cases q1:p x≤i
   ·have:=c1' _ q1; rw [hp,hf] at this; cases this
   ·by_cases q2:p x≤p (oppH h)
    ·omega
    ·have:=c3 (p x-(p (oppH h)+1)) (by omega);rw [show p (oppH h)+1+(p x-(p (oppH h)+1))=p x by omega,hp,hf] at this; cases this
  ·rintro ⟨q1,q2⟩;have:=c2 (p x-(i+1)) (by omega);rwa [show i+1+(p x-(i+1))=p x by omega,hp] at this
 have hp1: ∀x,x<2*E->p x≤i->p' x=p x:=fun x hx hle=>by
  have:=P'.back (p x) (P.lt x hx);rw [<-hs _ hle,P.at_ x hx] at this; exact this
 have hp2: ∀x,x<2*E->i<p x->i<p' x:=fun x hx hlt=>by
  refine Xq fun hc=> ?_;have:=P.back (p' x) (P'.lt x hx);rw [hs _ (by omega),P'.at_ x hx] at this; omega
 have hstx: ∀x,x<2*E->p x≤i->x / 2≠h / 2->t (x / 2)=t' (x / 2):=fun x hx hle hn=>by
  have hp:=P.at_ x hx;have:p x≠i:=fun e=>by rw [e,hh] at hp; exact hn (by rw [hp])
  have:=hst (p x) (by omega);rwa [hp] at this
 refine ⟨A,?_⟩;have s1:=hT.side hg hhl h1 a1 a2 a3;have s2:=hT'.few A ⟨g h,hg h hhl,a1⟩;have key: ∀f,f<E->(if t f=false∧A (g (A9S p f))=true then (1:Int) else 0)-(if t' f=true∧A (g (2*f))=true∧A (g (2*f+1))=true then 1 else 0)+(if t f=true∧A (g (2*f))=true∧A (g (2*f+1))=true then 1 else 0)+(if f=h / 2 then 1 else 0)≤if t' f=false∧A (g (A9S p' f))=true then 1 else 0:=fun f hf=>by
  have hx:2*f<2*E:=by omega
  have hy:2*f+1<2*E:=by omega
  have bx:=hA _ hx;have by_:=hA _ hy;have l1:=P.lt _ hx;have l2:=P.lt _ hy;by_cases hfe:f=h / 2
  ·rw [if_pos hfe];have ht:t f=true:=by rw [hfe]; exact h1
   have ht':t' f=false:=by rw [hfe]; exact h2
   have hfst:A9S p' f=h:=by
    have hp'h:p' h=i:=hpi';have hp'o:=hp2 _ hol hj0;unfold A9S;rcases Vz h with q | q
    ·have e1:2*f=h:=by omega
     have e2:2*f+1=oppH h:=by unfold oppH; omega
     rw [e2,e1,if_pos (by omega)]
    ·have e1:2*f+1=h:=by omega
     have e2:2*f=oppH h:=by unfold oppH; omega
     rw [e1,e2,if_neg (by omega)]
   have hcr: ¬(A (g (2*f))=true∧A (g (2*f+1))=true):=fun ⟨q1,q2⟩=>by
    rcases Vz h with q | q
    ·have e2:2*f+1=oppH h:=by unfold oppH; omega
     rw [e2,a2] at q2; cases q2
    ·have e2:2*f=oppH h:=by unfold oppH; omega
     rw [e2,a2] at q1; cases q1
   rw [hfst,ht,ht',a1];simp [hcr]
  ·rw [if_neg hfe];have sx:=fun hle=>hstx _ hx hle (by omega);have sy:=fun hle=>hstx _ hy hle (by omega);rw [show 2*f / 2=f by omega] at sx;rw [show (2*f+1) / 2=f by omega] at sy;have p1x:=hp1 _ hx;have p1y:=hp1 _ hy;have p2x:=hp2 _ hx;have p2y:=hp2 _ hy;have hxy:p (2*f)≠p (2*f+1):=fun e=>by
    have e1:=P.at_ _ hx;have e2:=P.at_ _ hy;rw [e,e2] at e1; omega
   have F:A (g (A9S p f))=if p (2*f)<p (2*f+1) then A (g (2*f)) else A (g (2*f+1)):=by unfold A9S; split<;>rfl
   have F':A (g (A9S p' f))=if p' (2*f)<p' (2*f+1) then A (g (2*f)) else A (g (2*f+1)):=by unfold A9S; split<;>rfl
   rw [F,F'];exact B9G hj0 bx by_ sx sy p1x p1y p2x p2y hxy
 have:=A3J key;rw [A06,A06,A1L,A0O _ _ (show h / 2<E by omega)] at this;unfold A6G;omega
end
variable {a:Nat->Nat} {D:Nat->Int}
section
variable {n q:Nat} {T:Nat->List Nat} {M:Nat->Nat->Int}
def tgt (T:Nat->List Nat) (v t:Nat):Nat:=(T v).getD (t%(T v).length) 0
def gone (T:Nat->List Nat) (v w:Nat):Nat->Int
 | 0=>0
 | t+1=>gone T v w t+if tgt T v (t+1)=w then 1 else 0
def B46 (n q:Nat) (T:Nat->List Nat) (a:Nat->Nat) (w:Nat):Int:=sumR (fun v=>if v=q then 0 else gone T v w (a v)) n-if w=q then 0 else (a w:Int)
def upN (a:Nat->Nat) (v x:Nat):Nat:=if x=v then a x+1 else a x
def A46 (n q:Nat) (T:Nat->List Nat) (D:Nat->Int) (a0 a:Nat->Nat) (w:Nat):Int:=D w+B46 n q T a w-B46 n q T a0 w
structure Rot (n q:Nat) (T:Nat->List Nat) (M:Nat->Nat->Int):Prop where
 hq:q<n
 lt: ∀v x,v<n->x∈T v->x<n
 pos: ∀v,v<n->v≠q->0<(T v).length
 cnt: ∀v w,v<n->w<n->v≠w->((T v).count w:Int)=M v w
def C4G {v t:Nat} (h:0<(T v).length):tgt T v t∈T v:=by
 unfold tgt;have:=VZ t h;rw [Qz,Qq this]; exact Xk this
def Rot.tgt_lt (h:Rot n q T M) {v:Nat} (t:Nat) (hv:v<n) (hn:v≠q):tgt T v t<n:=h.lt v _ hv (C4G (h.pos v hv hn))
def A91 {v w s t:Nat} (h:s≤t):gone T v w s≤gone T v w t:=by
 obtain ⟨k,rfl⟩: ∃k,t=s+k:=⟨t-s,by omega⟩;clear h
 induction k with
 | zero=>exact WW _
 | succ k ih=>rw [<-Wv,gone]; split<;>omega
def C4H (hq:q<n) {v:Nat} (hv:v<n) (hn:v≠q) (w:Nat):B46 n q T (upN a v) w=B46 n q T a w+(if tgt T v (a v+1)=w then 1 else 0)-if w=v then 1 else 0:=by
 unfold B46;have e:sumR (fun x=>if x=q then 0 else gone T x w (upN a v x)) n=sumR (fun x=>(if x=q then 0 else gone T x w (a x))+if x=v then (if tgt T v (a v+1)=w then 1 else 0) else 0) n:=A0g fun x _=>by
  unfold upN;by_cases h:x=v
  ·subst h; simp only [if_pos,if_neg hn]; rw [gone]
  ·simp only [if_neg h]; omega
 rw [e,A06,A0O _ _ hv];unfold upN;by_cases h:w=v
 ·subst h; simp only [if_neg hn,if_pos]; omega
 ·simp only [if_neg h]; omega
def B15 (hq:q<n) {a0 a:Nat->Nat} {v:Nat} (hv:v<n) (hn:v≠q) (w:Nat):A46 n q T D a0 (upN a v) w=A46 n q T D a0 a w+(if tgt T v (a v+1)=w then 1 else 0)-if w=v then 1 else 0:=by
 unfold A46; rw [C4H hq hv hn]; omega
inductive Leg (n q:Nat) (T:Nat->List Nat) (D:Nat->Int) (a0:Nat->Nat):(Nat->Nat)->Prop
 | base:Leg n q T D a0 a0
 | step {a:Nat->Nat} {v:Nat} (h:Leg n q T D a0 a) (hv:v<n) (hn:v≠q) (hc:1≤A46 n q T D a0 a v):Leg n q T D a0 (upN a v)
def Leg.nonneg {a0 a:Nat->Nat} (hq:q<n) (hD: ∀v,v<n->v≠q->0≤D v) (h:Leg n q T D a0 a): ∀v,v<n->v≠q->0≤A46 n q T D a0 a v:=by
 induction h with
 | base=>intro v hv hn; unfold A46; have:=hD v hv hn; omega
 | @step a v h hv hn hc ih=>
  intro w hw hwn;rw [B15 hq hv hn];have:=ih w hw hwn;by_cases e:w=v
  ·subst e; rw [if_pos rfl]; split<;>omega
  ·rw [if_neg e]; split<;>omega
def Leg.ge {a0 a:Nat->Nat} (h:Leg n q T D a0 a):(∀v,a0 v≤a v)∧ ∀v,(n≤v∨v=q)->a v=a0 v:=by
 induction h with
 | base=>exact ⟨fun _=>QQ _,fun _ _=>rfl⟩
 | step h hv hn hc ih=>
  refine ⟨fun w=> ?_,fun w hw=> ?_⟩
  ·have:=ih.1 w; unfold upN; split<;>omega
  ·unfold upN; rw [if_neg (by rintro rfl; rcases hw with q | q<;>omega)]; exact ih.2 w hw
def A92 (n q:Nat) (T:Nat->List Nat) (a:Nat->Nat):Prop:= ∀S:Nat->Bool,S q=false->(∃v,v<n∧S v=true)-> ∃v,v<n∧S v=true∧S (tgt T v (a v))=false
def Leg.closed {a0 a:Nat->Nat} (hR:Rot n q T M) (hD: ∀v,v<n->v≠q->0≤D v) (h0:A92 n q T a0) (h:Leg n q T D a0 a):
  ∀S:Nat->Bool,S q=false->(∃v,v<n∧S v=true)->(∀v,v<n->S v=true->S (tgt T v (a v))=true)-> ∃v,v<n∧S v=true∧1≤A46 n q T D a0 a v:=by
 induction h with
 | base=>
  intro S hS hx hc;obtain ⟨v,hv,h1,h2⟩:=h0 S hS hx;rw [hc v hv h1] at h2; cases h2
 | @step a v h hv hn hc ih=>
  intro S hS hx hcl;have hq:=hR.hq;by_cases hSv:S v=true
  ·have hw:=hcl v hv hSv;have e:upN a v v=a v+1:=by unfold upN; rw [if_pos rfl]
   rw [e] at hw;have hwn:tgt T v (a v+1)≠q:=fun e=>by rw [e,hS] at hw; cases hw
   refine ⟨_,hR.tgt_lt _ hv hn,hw,?_⟩;rw [B15 hq hv hn,if_pos rfl];have:=h.nonneg hq hD _ (hR.tgt_lt (a v+1) hv hn) hwn;split
   ·rename_i e; rw [e] at this ⊢; omega
   ·omega
  ·obtain ⟨x,hx1,hx2,hx3⟩:=ih S hS hx fun x hx1 hx2=>by
    have:=hcl x hx1 hx2;have e:upN a v x=a x:=by unfold upN; rw [if_neg (by rintro rfl; exact hSv hx2)]
    rwa [e] at this
   refine ⟨x,hx1,hx2,?_⟩;rw [B15 hq hv hn,if_neg (show ¬x=v by rintro rfl; exact hSv hx2)];split<;>omega
def Leg.acyc {a0 a:Nat->Nat} (hR:Rot n q T M) (hD: ∀v,v<n->v≠q->0≤D v) (h0:A92 n q T a0) (h:Leg n q T D a0 a) (hz: ∀v,v<n->v≠q->A46 n q T D a0 a v≤0):A92 n q T a:=by
 intro S hS hx;refine Xq fun hno=> ?_;obtain ⟨v,hv,h1,h2⟩:=h.closed hR hD h0 S hS hx fun v hv hSv=>by
  refine Xq fun hf=>hno ⟨v,hv,hSv,by simpa using hf⟩
 have:=hz v hv (by rintro rfl; rw [hS] at h1; cases h1);omega
def B9I (T:Nat->List Nat) (S:Nat->Bool) (v:Nat):Nat->Int
 | 0=>0
 | t+1=>B9I T S v t+if S (tgt T v (t+1))=true then 1 else 0
def B2W (hR:Rot n q T M) (S:Nat->Bool) {v:Nat} (hv:v<n) (hn:v≠q): ∀t:Nat,sumR (fun w=>if S w=true then gone T v w t else 0) n=B9I T S v t
 | 0=>A0F fun w _=>by split<;>rfl
 | t+1=>by
  rw [B9I,<-B2W hR S hv hn t];have e:sumR (fun w=>if S w=true then gone T v w (t+1) else 0) n=sumR (fun w=>(if S w=true then gone T v w t else 0)+if w=tgt T v (t+1) then (if S (tgt T v (t+1))=true then 1 else 0) else 0) n:=A0g fun w _=>by
   rw [gone];by_cases h:w=tgt T v (t+1)
   ·subst h; simp only [if_pos]; split<;>simp_all
   ·rw [if_neg h,if_neg (Ne.symm h)]; simp
  rw [e,A06,A0O _ _ (hR.tgt_lt _ hv hn)]
end
def B2X {α:Type} {P:List α->Prop} (h0:P []) (h1: ∀l x,P l->P (l++[x])) (l:List α):P l:=by
 have: ∀r:List α,P r.reverse:=fun r=>by
  induction r with
  | nil=>exact h0
  | cons x r ih=>rw [List.reverse_cons]; exact h1 _ _ ih
 have:=this l.reverse; rwa [List.reverse_reverse] at this
section
variable {n q:Nat} {T:Nat->List Nat} {M:Nat->Nat->Int}
def B5D (l:List Nat) (w:Nat):Nat->Int
 | 0=>0
 | t+1=>B5D l w t+if l.getD (t%l.length) 0=w then 1 else 0
def B7j (w:Nat): ∀(l r:List Nat),(∀t,t<l.length->r.getD (t%r.length) 0=l.getD t 0)->B5D r w l.length=(l.count w:Nat):=by
 intro l;refine B2X (P:=fun l=> ∀r:List Nat,(∀t,t<l.length->r.getD (t%r.length) 0=l.getD t 0)->B5D r w l.length=(l.count w:Nat)) ?_ ?_ l
 ·intro r _; rfl
 ·intro l x ih r h;have h1:=ih r fun t ht=>by
   have:=h t (by simp; omega);rw [this,Qz,Qk ht,<-Qz]
  have h2:=h l.length (by simp);rw [Qz (l:=l++[x]),QV (QQ _),Jz] at h2;simp only [List.getElem?_cons_zero,Option.getD_some] at h2;rw [Xv,List.length_singleton,B5D,h1,h2,List.count_append,List.count_singleton];by_cases e:x=w
  ·subst e; simp
  ·simp [e]
def B2Y (v w:Nat): ∀t:Nat,gone T v w t=B5D (T v) w (t+1)-B5D (T v) w 1
 | 0=>by show (0:Int)=B5D (T v) w 1-B5D (T v) w 1; omega
 | t+1=>by
  have e:B5D (T v) w (t+1+1)=B5D (T v) w (t+1)+if (T v).getD ((t+1)%(T v).length) 0=w then 1 else 0:=rfl
  rw [gone,B2Y v w t,e]; unfold tgt; omega
def B9J {v:Nat} (hp:0<(T v).length) (w t:Nat):gone T v w (t+(T v).length)=gone T v w t+(T v).count w:=by
 induction t with
 | zero=>
  obtain ⟨m,hm⟩: ∃m,(T v).length=m+1:=⟨(T v).length-1,by omega⟩;rw [XX,B2Y,B5D,B7j w (T v) (T v) fun t ht=>by rw [Vj ht]];rw [gone];have e1:B5D (T v) w 1=if (T v).getD 0 0=w then 1 else 0:=by rw [B5D,B5D]; simp
  rw [e1,Nat.mod_self]; omega
 | succ t ih=>
  have:t+1+(T v).length=(t+(T v).length)+1:=by omega
  rw [this,gone,gone,ih];have e:tgt T v (t+(T v).length+1)=tgt T v (t+1):=by
   unfold tgt; rw [show t+(T v).length+1=t+1+(T v).length by omega,Nat.add_mod_right]
  rw [e]; omega
def A71 {v:Nat} (hp:0<(T v).length) (w t:Nat): ∀k:Nat,gone T v w (t+(T v).length*k)=gone T v w t+k*(T v).count w
 | 0=>by simp
 | k+1=>by
  rw [Nat.mul_succ,<-Wv,B9J hp,A71 hp w t k,Int.natCast_add,Int.add_mul]; omega
def B9K {l:List Nat} (h: ∀x,x∈l->x<n):sumR (fun w=>(l.count w:Int)) n=l.length:=by
 induction l with
 | nil=>exact A0F fun _ _=>rfl
 | cons x l ih=>
  have e:sumR (fun w=>((x::l).count w:Int)) n=sumR (fun w=>(l.count w:Int)+if w=x then 1 else 0) n:=A0g fun w _=>by
   rw [List.count_cons];by_cases q:w=x
   ·subst q; simp
   ·rw [if_neg q,if_neg (by simpa using Ne.symm q)]; simp
  rw [e,A06,A0O _ _ (h x (by simp)),ih fun y hy=>h y (by simp [hy])]; simp
def B2Z (hR:Rot n q T M) (hM:Mult n M) {a b:Nat->Nat} {k:Nat->Nat} (hk:k q=0) (hb: ∀v,v<n->v≠q->b v=a v+(T v).length*k v) {w:Nat} (hw:w<n) (hn:w≠q):B46 n q T b w=B46 n q T a w-lap n M (fun v=>(k v:Int)) w:=by
 unfold B46;rw [if_neg hn,if_neg hn,hb w hw hn];have e1:sumR (fun v=>if v=q then 0 else gone T v w (b v)) n=sumR (fun v=>(if v=q then 0 else gone T v w (a v))+(k v:Int)*(T v).count w) n:=A0g fun v hv=>by
  by_cases h:v=q
  ·subst h; rw [if_pos rfl,if_pos rfl,hk]; simp
  ·rw [if_neg h,if_neg h,hb v hv h,A71 (hR.pos v hv h)]
 have e2:sumR (fun v=>(k v:Int)*(T v).count w) n=sumR (fun v=>(k v:Int)*M w v+if v=w then (k w:Int)*(T w).count w else 0) n:=A0g fun v hv=>by
  by_cases h:v=w
  ·subst h; rw [if_pos rfl,hM.dia]; omega
  ·rw [if_neg h,hR.cnt v w hv hw h,hM.sym v w]; omega
 have e3:((T w).length:Int)=sumR (M w) n+(T w).count w:=by
  rw [<-B9K (n:=n) fun x hx=>hR.lt w x hw hx];have:sumR (fun x=>((T w).count x:Int)) n=sumR (fun x=>M w x+if x=w then ((T w).count w:Int) else 0) n:=A0g fun x hx=>by
   by_cases h:x=w
   ·subst h; rw [if_pos rfl,hM.dia]; omega
   ·rw [if_neg h,hR.cnt w x hw hx (Ne.symm h)]; omega
  rw [this,A06,A0O _ _ hw]
 have e4:lap n M (fun v=>(k v:Int)) w=(k w:Int)*sumR (M w) n-sumR (fun v=>(k v:Int)*M w v) n:=by
  unfold lap;rw [<-A4r,<-A1L];exact A0g fun u _=>by rw [Int.mul_sub,Qv0 (M w u),Qv0 (M w u)]
 rw [e1,A06,e2,A06,A0O _ _ hw,e4,Int.natCast_add,Int.natCast_mul,e3,Int.add_mul,Qv0 (sumR (M w) n),Qv0 ((T w).count w:Int)];omega
def B47 {a b:Nat->Nat} (h: ∀v,v<n->v≠q->a v%(T v).length=b v%(T v).length) (ha:A92 n q T a):A92 n q T b:=fun S hS hx=>by
 obtain ⟨v,hv,h1,h2⟩:=ha S hS hx;refine ⟨v,hv,h1,?_⟩;unfold tgt at h2 ⊢;rwa [<-h v hv (by rintro rfl; rw [hS] at h1; cases h1)]
def B16 (n q:Nat) (T:Nat->List Nat) (D:Nat->Int) (R R':Nat->Nat):Prop:= ∃a,Leg n q T D R a∧(∀v,v<n->v≠q->A46 n q T D R a v=0)∧ ∀v,v<n->v≠q->a v%(T v).length=R' v%(T v).length
def B16.acyc {R R':Nat->Nat} (hR:Rot n q T M) (hD: ∀v,v<n->v≠q->0≤D v) (h0:A92 n q T R) (h:B16 n q T D R R'):A92 n q T R':=by
 obtain ⟨a,h1,h2,h3⟩:=h;exact B47 h3 (h1.acyc hR hD h0 fun v hv hn=>by rw [h2 v hv hn]; exact WW _)
def C4I (hR:Rot n q T M) (hM:Mult n M) {a b:Nat->Nat} (h: ∀v,v<n->v≠q->a v%(T v).length=b v%(T v).length): ∃k:Nat->Int,k q=0∧ ∀w,w<n->w≠q->B46 n q T b w=B46 n q T a w-lap n M k w:=by
 obtain ⟨i,hi⟩: ∃i:Nat->Nat,∀v,i v=if v=q then 0 else a v / (T v).length:=⟨_,fun _=>rfl⟩
 obtain ⟨j,hj⟩: ∃j:Nat->Nat,∀v,j v=if v=q then 0 else b v / (T v).length:=⟨_,fun _=>rfl⟩
 obtain ⟨c,hc⟩: ∃c:Nat->Nat,∀v,c v=a v%(T v).length:=⟨_,fun _=>rfl⟩;have e1:=fun w (hw:w<n) (hn:w≠q)=>B2Z hR hM (a:=c) (b:=a) (k:=i) (by rw [hi,if_pos rfl]) (fun v _ hq=>by rw [hc,hi,if_neg hq,Nat.mod_add_div]) hw hn;have e2:=fun w (hw:w<n) (hn:w≠q)=>B2Z hR hM (a:=c) (b:=b) (k:=j) (by rw [hj,if_pos rfl]) (fun v hv hq=>by rw [hc,hj,if_neg hq,h v hv hq,Nat.mod_add_div]) hw hn;refine ⟨fun v=>(j v:Int)-i v,by dsimp only; rw [hi,hj,if_pos rfl,if_pos rfl]; rfl,fun w hw hn=> ?_⟩;have e3:lap n M (fun v=>(j v:Int)-i v) w=lap n M (fun v=>(j v:Int)) w-lap n M (fun v=>(i v:Int)) w:=by
  have:=A7u (n:=n) (M:=M) (fun v=>(j v:Int)-i v) (fun v=>(i v:Int)) w;have e:(fun u=>(j u:Int)-i u+i u)=fun v=>(j v:Int):=by funext u; omega
  rw [e] at this; omega
 rw [e1 w hw hn,e2 w hw hn,e3]; omega
end
def B48 {P:Nat->Prop} {m:Nat} (h: ¬ ∀j,j<m->P j): ∃j,j<m∧ ¬P j:=
 Xq fun hx=>h fun j hj=>Xq fun hp=>hx ⟨j,hj,hp⟩
section
variable {n q:Nat} {T:Nat->List Nat} {M:Nat->Nat->Int}
def B3a (v:Nat): ∀t:Nat,B9I T (fun _=>true) v t=t
 | 0=>rfl
 | t+1=>by rw [B9I,B3a v t,if_pos rfl]; omega
def B5E (hR:Rot n q T M) (a:Nat->Nat):sumR (B46 n q T a) n=0:=by
 have e:sumR (B46 n q T a) n=sumR (fun w=>sumR (fun v=>if v=q then 0 else gone T v w (a v)) n) n-sumR (fun w=>if w=q then 0 else (a w:Int)) n:=A1L _ _ n;rw [e,A3q];have e2:sumR (fun v=>sumR (fun w=>if v=q then 0 else gone T v w (a v)) n) n=sumR (fun w=>if w=q then 0 else (a w:Int)) n:=A0g fun v hv=>by
  by_cases h:v=q
  ·rw [if_pos h]; exact A0F fun w _=>if_pos h
  ·rw [if_neg h,<-B3a (T:=T) v (a v),<-B2W hR _ hv h];exact A0g fun w _=>by rw [if_neg h,if_pos rfl]
 rw [e2]; omega
def C24 (n q:Nat) (T:Nat->List Nat) (a0 a:Nat->Nat) (w:Nat):Int:=sumR (fun v=>if v=q then 0 else gone T v w (a v)-gone T v w (a0 v)) n
def B3b {D:Nat->Int} {a0 a:Nat->Nat} (w:Nat):A46 n q T D a0 a w=D w+C24 n q T a0 a w-if w=q then 0 else ((a w:Int)-a0 w):=by
 have e:C24 n q T a0 a w=sumR (fun v=>if v=q then 0 else gone T v w (a v)) n-sumR (fun v=>if v=q then 0 else gone T v w (a0 v)) n:=by
  unfold C24; rw [<-A1L]; exact A0g fun v _=>by split<;>omega
 unfold A46 B46;rw [e]; split<;>omega
def B5F (hq:q<n) (f:Nat->Int):sumR f n=sumR (fun v=>if v=q then 0 else f v) n+f q:=by
 have e:sumR f n=sumR (fun v=>(if v=q then 0 else f v)+if v=q then f q else 0) n:=A0g fun v _=>by
  by_cases h:v=q
  ·subst h; rw [if_pos rfl,if_pos rfl]; omega
  ·rw [if_neg h,if_neg h]; omega
 rw [e,A06,A0O _ _ hq]
def Leg.arr {a0 a:Nat->Nat} (hR:Rot n q T M) (hD: ∀v,v<n->v≠q->0≤D v) (h:Leg n q T D a0 a) {C:Int} (hC:sumR (fun v=>if v=q then 0 else D v) n≤C):
  C24 n q T a0 a q≤C∧ ∀w,w<n->w≠q->C24 n q T a0 a w≤C+((a w:Int)-a0 w):=by
 have hq:=hR.hq;have hnn:=h.nonneg hq hD;have hs:sumR (A46 n q T D a0 a) n=sumR D n:=by
  have e:sumR (A46 n q T D a0 a) n=sumR (fun w=>(D w+B46 n q T a w)-B46 n q T a0 w) n:=rfl;rw [e,A1L,A06,B5E hR,B5E hR]; omega
 rw [B5F hq,B5F hq D] at hs;have h1:=B3b (T:=T) (D:=D) (a0:=a0) (a:=a) (n:=n) (q:=q) q;rw [if_pos rfl] at h1;have hz: ∀w,w<n->0≤(if w=q then 0 else A46 n q T D a0 a w):=fun w hw=>by
  by_cases h:w=q
  ·rw [if_pos h]; exact WW _
  ·rw [if_neg h]; exact hnn w hw h
 have h2:=A1W hz;have h3:0≤C24 n q T a0 a q:=A1W fun v _=>by
  split
  ·exact WW _
  ·have:=A91 (T:=T) (v:=v) (w:=q) (h.ge.1 v); omega
 refine ⟨by omega,fun w hw hn=> ?_⟩;have h4:=A1p hz hw;rw [if_neg hn] at h4;have h5:=B3b (T:=T) (D:=D) (a0:=a0) (a:=a) (n:=n) (q:=q) w;rw [if_neg hn] at h5;have:=hD w hw hn;omega
def B9L {u w:Nat} (hp:0<(T u).length) (hc:1≤((T u).count w:Int)) {s t:Nat} (hst:s≤t):(((t-s) / (T u).length:Nat):Int)≤gone T u w t-gone T u w s:=by
 have h1:=A71 hp w s ((t-s) / (T u).length);have h2:s+(T u).length*((t-s) / (T u).length)≤t:=by
  have:=Nat.mul_div_le (t-s) (T u).length; omega
 have h3:=A91 (T:=T) (v:=u) (w:=w) h2;generalize (t-s) / (T u).length=k at*;have h4:0≤(k:Int)*(((T u).count w:Int)-1):=Qj4 (by omega) (by omega);rw [Int.mul_sub,Int.mul_one] at h4;omega
def eB (m C:Nat):Nat->Nat
 | 0=>0
 | j+1=>m*(C+eB m C j+1)
def C4J {m C:Nat} (hm:1≤m): ∀{i j:Nat},i≤j->eB m C i≤eB m C j:=by
 have h1: ∀j,eB m C j≤eB m C (j+1):=fun j=>by
  rw [eB];have:1*(C+eB m C j+1)≤m*(C+eB m C j+1):=Wk _ hm;omega
 intro i j h
 induction h with
 | refl=>exact QQ _
 | step h ih=>exact Yj ih (h1 _)
def Leg.steps {a0 a:Nat->Nat} (hR:Rot n q T M) (hM:Mult n M) (hD: ∀v,v<n->v≠q->0≤D v) (h:Leg n q T D a0 a) {C m:Nat} (hC:sumR (fun v=>if v=q then 0 else D v) n≤C) (hm: ∀v,v<n->(T v).length≤m) (hm1:1≤m)
  {L:List Nat} (l3: ∀v,v∈L->v<n) (l4:L[0]? =some q) (l5: ∀i v,1≤i->L[i]? =some v-> ∃u,u∈L.take i∧1≤M v u) (hnd:L.Nodup): ∀(i v:Nat),L[i]? =some v->a v-a0 v≤eB m C i:=by
 obtain ⟨hq1,hw1⟩:=h.arr hR hD hC;intro i
 induction i using Nat.strongRecOn with
 | ind i ih=>
  intro v hv;cases i with
  | zero=>rw [l4] at hv; injection hv with hv; rw [<-hv,h.ge.2 q (.inr rfl)]; omega
  | succ i=>
   have hvn:=l3 v (Qy hv);have hvq:v≠q:=by
    rintro rfl;have h1:=(Qx.1 hv);have h2:=(Qx.1 l4);obtain ⟨p1,p2⟩:=h1;obtain ⟨p3,p4⟩:=h2;exact (ZV.1 hnd) 0 (i+1) p3 p1 (by omega) (p4.trans p2.symm)
   obtain ⟨u,hu,hMu⟩:=l5 (i+1) v (by omega) hv;obtain ⟨j,hj⟩:=Zj.1 hu;rw [List.getElem?_take] at hj;split at hj
   ·rename_i hji;have hun:=l3 u (Qy hj);have hne:v≠u:=by rintro rfl; rw [hM.dia] at hMu; omega
    have hcnt:1≤((T v).count u:Int):=by rw [hR.cnt v u hvn hun hne]; exact hMu
    have hpos:=hR.pos v hvn hvq;have hge:=h.ge.1 v;have hrate:=B9L hpos hcnt hge;have harr:gone T v u (a v)-gone T v u (a0 v)≤C24 n q T a0 a u:=by
     have:=A1p (f:=fun v=>if v=q then 0 else gone T v u (a v)-gone T v u (a0 v)) (n:=n) (fun x _=>by
      split
      ·exact WW _
      ·have:=A91 (T:=T) (v:=x) (w:=u) (h.ge.1 x); omega) hvn
     rwa [if_neg hvq] at this
    generalize hgk:(a v-a0 v) / (T v).length=dk at*;have hle:(dk:Int)≤C+eB m C j:=by
     have hj2:=ih j hji u hj;by_cases e:u=q
     ·have e2:C24 n q T a0 a u=C24 n q T a0 a q:=by rw [e]
      omega
     ·have:=hw1 u hun e;have:=h.ge.1 u;omega
    have hle2:dk≤C+eB m C j:=by omega
    have h1:=Nat.div_add_mod (a v-a0 v) (T v).length;rw [hgk] at h1;have h2:=VZ (a v-a0 v) hpos;have h3:=Nat.mul_le_mul (hm v hvn) hle2;have h4:=Nat.mul_le_mul_left (T v).length hle2;have h5:=C4J (m:=m) (C:=C) hm1 (show j≤i by omega);have h6:=Nat.mul_le_mul_left m h5;have h7:=hm v hvn;rw [eB,Nat.mul_add,Nat.mul_add,Wq];have h8:m*(C+eB m C j)=m*C+m*eB m C j:=Nat.mul_add _ _ _;omega
   ·cases hj
def B3c {L:List Nat} (f:Nat->Int):L.Nodup->(∀v,v∈L->v<n)->sumR (fun v=>if v∈L then f v else 0) n=sumR (fun i=>f (L.getD i 0)) L.length:=by
 refine B2X (P:=fun L=>L.Nodup->(∀v,v∈L->v<n)->sumR (fun v=>if v∈L then f v else 0) n=sumR (fun i=>f (L.getD i 0)) L.length) ?_ ?_ L
 ·intro _ _; exact A0F fun v _=>by simp
 ·intro L x ih hnd hlt;have hx:x∉L:=fun hx=>(Wj.1 hnd).2.2 x hx x (by simp) rfl;have h1:=ih (Wj.1 hnd).1 fun v hv=>hlt v (by simp [hv]);rw [Xv,List.length_singleton,sumR];have e1:sumR (fun v=>if v∈L++[x] then f v else 0) n=sumR (fun v=>(if v∈L then f v else 0)+if v=x then f x else 0) n:=A0g fun v _=>by
   by_cases e:v=x
   ·subst e; simp [hx]
   ·simp [e]
  have e2:sumR (fun i=>f ((L++[x]).getD i 0)) L.length=sumR (fun i=>f (L.getD i 0)) L.length:=A0g fun i hi=>by
   rw [Qz,Qk hi,<-Qz]
  rw [e1,e2,A06,A0O _ _ (hlt x (by simp)),h1];simp
def eS (m C n:Nat):Nat:=((List.range n).map (eB m C)).sum
def C39 (m C:Nat): ∀n:Nat,(eS m C n:Int)=sumR (fun i=>(eB m C i:Int)) n
 | 0=>rfl
 | n+1=>by
  have:eS m C (n+1)=eS m C n+eB m C n:=by unfold eS; rw [WX,WY,List.sum_append]; simp
  rw [this,sumR,<-C39 m C n]; omega
def Leg.bound {a0 a:Nat->Nat} (hR:Rot n q T M) (hM:Mult n M) (hD: ∀v,v<n->v≠q->0≤D v) (h:Leg n q T D a0 a) {C m:Nat} (hC:sumR (fun v=>if v=q then 0 else D v) n≤C) (hm: ∀v,v<n->(T v).length≤m) (hm1:1≤m):sumR (fun v=>(a v:Int)-a0 v) n≤eS m C n:=by
 obtain ⟨L,l1,l2,l3,l4,l5⟩:=A7w hM hR.hq n (by have:=hR.hq; omega) (QQ _);have hst:=h.steps hR hM hD hC hm hm1 l3 l4 l5 l2;have hall: ∀v,v<n->v∈L:=fun v hv=>by
  refine Xq fun hn=> ?_;have:=A61 (n:=n) (seen:=L++[v]) (Wj.2 ⟨l2,by simp,fun a ha b hb=>by simp at hb; subst hb; rintro rfl; exact hn ha⟩) fun u hu=>by
   rcases XY.1 hu with hu | hu
   ·exact l3 u hu
   ·simp at hu; omega
  simp at this; omega
 have e1:sumR (fun v=>(a v:Int)-a0 v) n=sumR (fun v=>if v∈L then ((a v:Int)-a0 v) else 0) n:=A0g fun v hv=>by rw [if_pos (hall v hv)]
 rw [e1,B3c (n:=n) (fun v=>(a v:Int)-a0 v) l2 l3,l1,C39];refine A3J fun i hi=> ?_;have hil:i<L.length:=by omega
 have:=hst i (L.getD i 0) (by rw [Qz,Qq hil]; rfl);have:=h.ge.1 (L.getD i 0);omega
def B9M {a0 a:Nat->Nat} {v:Nat} (hv:v<n):sumR (fun x=>(upN a v x:Int)-a0 x) n=sumR (fun x=>(a x:Int)-a0 x) n+1:=by
 have e:sumR (fun x=>(upN a v x:Int)-a0 x) n=sumR (fun x=>((a x:Int)-a0 x)+if x=v then 1 else 0) n:=A0g fun x _=>by
  unfold upN; split<;>omega
 rw [e,A06,A0O _ _ hv]
def B49 (hR:Rot n q T M) (hM:Mult n M) {R:Nat->Nat} (hD: ∀v,v<n->v≠q->0≤D v): ∃R',B16 n q T D R R':=by
 obtain ⟨m,hm⟩: ∃m:Nat,∀v,v<n->(T v).length≤m:=⟨(sumR (fun v=>((T v).length:Int)) n).toNat,fun v hv=>by
  have:=A1p (f:=fun v=>((T v).length:Int)) (n:=n) (fun _ _=>by omega) hv
  omega⟩
 have key: ∀(k:Nat) (a:Nat->Nat),Leg n q T D R a->(eS (m+1) (sumR (fun v=>if v=q then 0 else D v) n).toNat n:Int)-sumR (fun v=>(a v:Int)-R v) n≤k-> ∃b,Leg n q T D R b∧ ∀v,v<n->v≠q->A46 n q T D R b v=0:=by
  intro k
  induction k with
  | zero=>
   intro a ha hk;refine ⟨a,ha,fun v hv hn=> ?_⟩;refine Xq fun hc=> ?_;have h1:=ha.nonneg hR.hq hD v hv hn;have h2:=(Leg.step ha hv hn (by omega)).bound hR hM hD (C:=(sumR (fun v=>if v=q then 0 else D v) n).toNat) (m:=m+1) (by omega) (fun v hv=>by have:=hm v hv; omega) (by omega);rw [B9M hv] at h2;omega
  | succ k ih=>
   intro a ha hk;by_cases hf: ∀v,v<n->(v≠q->A46 n q T D R a v=0)
   ·exact ⟨a,ha,hf⟩
   ·obtain ⟨v,hv,hx⟩:=B48 hf;have hvn:v≠q:=fun e=>hx fun h=>absurd e h;have hc: ¬A46 n q T D R a v=0:=fun e=>hx fun _=>e;have h1:=ha.nonneg hR.hq hD v hv hvn;exact ih _ (Leg.step ha hv hvn (by omega)) (by rw [B9M hv]; omega)
 obtain ⟨b,b1,b2⟩:=key _ R .base (Int.self_le_toNat _);exact ⟨b,b,b1,b2,fun _ _ _=>rfl⟩
end
section
variable {n q:Nat} {T:Nat->List Nat} {M:Nat->Nat->Int}
def B16.congr {R R' S:Nat->Nat} (h:B16 n q T D R R') (hs: ∀v,v<n->v≠q->R' v%(T v).length=S v%(T v).length):B16 n q T D R S:=by
 obtain ⟨a,h1,h2,h3⟩:=h;exact ⟨a,h1,h2,fun v hv hn=>(h3 v hv hn).trans (hs v hv hn)⟩
def C25 (hR:Rot n q T M) (hM:Mult n M) {D E:Nat->Int} {R R':Nat->Nat} (h0:A92 n q T R) (hD:reducedAt n M q D) (hE:reducedAt n M q E) (h:B16 n q T D R R') (h':B16 n q T E R R'): ∀v,v<n->v≠q->D v=E v:=by
 obtain ⟨a,a1,a2,a3⟩:=h;obtain ⟨b,b1,b2,b3⟩:=h';obtain ⟨k,hk,hk2⟩:=C4I hR hM (a:=a) (b:=b) fun v hv hn=>(a3 v hv hn).trans (b3 v hv hn).symm;have heq: ∀v,v<n->v≠q->E v=D v-lap n M (fun v=> -k v) v:=fun v hv hn=>by
  have e4:lap n M (fun v=> -k v) v= -lap n M k v:=B4x k v;have h1:=a2 v hv hn;have h2:=b2 v hv hn;have h3:=hk2 v hv hn;unfold A46 at h1 h2;rw [e4]; omega
 have hq:=hR.hq;have hr:reducedAt n M q fun v=>D v-lap n M (fun v=> -k v) v:=hE.congr fun v hv hn=>heq v hv hn;have:=B6Z hM hq hD hr ⟨fun v=> -k v,fun v hv=>rfl⟩;intro v hv hn;rw [heq v hv hn]; exact this v hv
end
end Go.Proofs.YtdbdfkohpjefjaaGreat
