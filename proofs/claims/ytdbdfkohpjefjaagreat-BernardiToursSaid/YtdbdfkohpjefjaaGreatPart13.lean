/- A part of the proof. -/
import Derived.Test.YtdbdfkohpjefjaaGreatPart09
set_option linter.all false
set_option maxHeartbeats 4000000
set_option maxRecDepth 100000
namespace Go.Proofs.YtdbdfkohpjefjaaGreat
open Go.Sp
set_option maxHeartbeats 1000000
theorem A9F (c:Int) (j:Nat): ∀{n:Nat},j<n->sumR (fun i=>if i=j then c else 0) n=c
 | 0,h=>by omega
 | n+1,h=>by
  simp only [sumR];by_cases e:j=n
  ·subst e; rw [if_pos rfl,A2N fun i hi=>if_neg (by omega)]; omega
  ·rw [if_neg (by omega),A9F c j (n:=n) (by omega)]; omega
structure Mult (n:Nat) (M:Nat->Nat->Int):Prop where
 sym: ∀u v,M u v=M v u
 pos: ∀u v,0≤M u v
 dia: ∀v,M v v=0
 con: ∀S:Nat->Bool,(∃v,v<n∧S v=true)->(∃v,v<n∧S v=false)-> ∃u v,u<n∧v<n∧S u=true∧S v=false∧1≤M u v
def lap (n:Nat) (M:Nat->Nat->Int) (s:Nat->Int) (v:Nat):Int:=sumR (fun u=>M v u*(s v-s u)) n
section
variable {n:Nat} {M:Nat->Nat->Int}
end
set_option maxHeartbeats 1000000
def inA (n:Nat) (M:Nat->Nat->Int) (A:Nat->Bool) (v:Nat):Int:=sumR (fun u=>if A u=true then M v u else 0) n
section
variable {n:Nat} {M:Nat->Nat->Int}
theorem B5t (hM:Mult n M) {q:Nat} (hq:q<n): ∀k,1≤k->k≤n-> ∃L:List Nat,L.length=k∧L.Nodup∧(∀v,v∈L->v<n)∧L[0]? =some q∧ ∀i v,1≤i->L[i]? =some v-> ∃u,u∈L.take i∧1≤M v u:=by
 intro k
 induction k with
 | zero=>intro h; omega
 | succ k ih=>
  intro _ hk;rcases Qj2 k with h0 | h0
  ·subst h0;exact ⟨[q],rfl,by simp,by simpa using hq,rfl,fun i v hi hv=>by have:=(Qx.1 hv).1; simp at this; omega⟩
  ·obtain ⟨L,l1,l2,l3,l4,l5⟩:=ih h0 (by omega);have hout: ∃v,v<n∧v∉L:=by
    refine ZJ fun hx=> ?_;have:=WQ (l₁:=List.range n) (l₂:=L) Qq9 fun v hv=>ZJ fun h=>hx ⟨v,XJ.1 hv,h⟩;rw [VQ] at this; omega
   obtain ⟨w,hw,hwL⟩:=hout;obtain ⟨u,v,hu,hv,h1,h2,h3⟩:=hM.con (fun v=>decide (v∈L)) ⟨q,hq,decide_eq_true (Qy l4)⟩ ⟨w,hw,decide_eq_false hwL⟩;rw [decide_eq_true_eq] at h1;rw [decide_eq_false_iff_not] at h2;refine ⟨L++[v],by simp [l1],JW.2 ⟨l2,by simp,fun a ha b hb=>by simp at hb; subst hb; rintro rfl; exact h2 ha⟩,fun x hx=> ?_,by rw [Qv (by omega)]; exact l4,fun i x hi hx=> ?_⟩
   ·rcases XW.1 hx with h | h
    ·exact l3 x h
    ·rw [Zz.1 h]; exact hv
   ·by_cases hil:i<L.length
    ·rw [Qv hil] at hx;obtain ⟨y,y1,y2⟩:=l5 i x hi hx;exact ⟨y,by rw [Zy (by omega)]; exact y1,y2⟩
    ·have hi2:=(Qx.1 hx).1;simp at hi2;have hie:i=L.length:=by omega
     subst hie;rw [QJ (QQ _)] at hx;simp at hx; subst hx;exact ⟨u,by rw [Zy (QQ _),Zk]; exact h1,by rw [hM.sym]; exact h3⟩
end
set_option maxHeartbeats 1000000
section
variable {n:Nat} {M:Nat->Nat->Int}
end
set_option maxHeartbeats 1000000
section
variable {n:Nat} {M:Nat->Nat->Int}
theorem B1D {α β:Type} {f:α->β} {l:List α} (hl:l.Nodup) (hf: ∀x,x∈l-> ∀y,y∈l->f x=f y->x=y):(l.map f).Nodup:=by
 show List.Pairwise _ _;rw [JJ];exact List.Pairwise.imp_of_mem (fun {x y} hx hy h e=>h (hf x hx y hy e)) hl
def atI (l:List Int) (v:Nat):Int:=l.getD v 0
end
set_option maxHeartbeats 1000000
section
variable {n a b:Nat} {M:Nat->Nat->Int}
end
set_option maxHeartbeats 1000000
section
variable {n q:Nat} {M:Nat->Nat->Int} {c:Nat->Int}
def valM (n:Nat) (M:Nat->Nat->Int) (v:Nat):Int:=sumR (M v) n
def catchP (n:Nat) (M:Nat->Nat->Int) (c:Nat->Int) (L:List Nat) (v:Nat):Bool:=decide (v∉L)&&decide (valM n M v≤c v+inA n M (fun u=>decide (u∈L)) v)
def fireG (n:Nat) (M:Nat->Nat->Int) (c:Nat->Int):Nat->List Nat->List Nat
 | 0,L=>L
 | k+1,L=>match (List.range n).find? (catchP n M c L) with
  | some v=>fireG n M c k (L++[v])
  | none=>L
structure Burns (n:Nat) (M:Nat->Nat->Int) (c:Nat->Int) (q:Nat) (L:List Nat):Prop where
 nd:L.Nodup
 lt: ∀v,v∈L->v<n
 hd:L[0]? =some q
 ct: ∀i v,1≤i->L[i]? =some v->catchP n M c (L.take i) v=true
end
set_option maxHeartbeats 2000000
structure TourP (N:Nat) (f:Nat->Nat) (h0:Nat) (p:Nat->Nat):Prop where
 lt: ∀x,x<N->p x<N
 at_: ∀x,x<N->it f (p x) h0=x
 back: ∀i,i<N->p (it f i h0)=i
 pl: ∀i,it f i h0<N
 per:it f N h0=h0
 beg:h0<N
theorem C1U {N:Nat} {f:Nat->Nat} (hp:PermN N f) {h0:Nat} (h:h0<N) (hc: ∀x,x<N-> ∃i,x=it f i h0): ∃p,TourP N f h0 p:=by
 have hmod: ∀d,1≤d->it f d h0=h0-> ∀i,it f i h0=it f (i%d) h0:=fun d hd he i=>by
  have hk: ∀k,it f (d*k) h0=h0:=fun k=>by
   induction k with
   | zero=>rfl
   | succ k ih=>rw [Nat.mul_succ,A7b,he,ih]
  have:i=i%d+d*(i / d):=(Nat.mod_add_div i d).symm;have e:it f i h0=it f (i%d+d*(i / d)) h0:=by rw [<-this]
  rw [e,A7b,hk]
 have hmin: ∀d,1≤d->it f d h0=h0->N≤d:=fun d hd he=>by
  have:=WQ (l₁:=List.range N) (l₂:=(List.range d).map fun i=>it f i h0) Qq9 fun x hx=>by
   obtain ⟨i,hi⟩:=hc x (XJ.1 hx);exact Xq.2 ⟨i%d,XJ.2 (Vy _ (by omega)),by rw [hi,<-hmod d hd he i]⟩
  simpa using this
 obtain ⟨P,p1,p2,p3⟩:=hp.period h;have hPN:P=N:=by have:=hmin P p1 p3; omega
 subst hPN;have hex: ∀x,∃i,x<P->i<P∧it f i h0=x:=fun x=>by
  by_cases hx:x<P
  ·obtain ⟨i,hi⟩:=hc x hx;exact ⟨i%P,fun _=>⟨Vy _ (by omega),by rw [<-hmod P p1 p3 i,<-hi]⟩⟩
  ·exact ⟨0,fun h=>absurd h hx⟩
 obtain ⟨p,hpp⟩:=Classical.axiomOfChoice hex;refine ⟨p,fun x hx=>(hpp x hx).1,fun x hx=>(hpp x hx).2,fun i hi=> ?_,fun i=>hp.it_lt h i,p3,h⟩;have hxl:=hp.it_lt h i;obtain ⟨q1,q2⟩:=hpp _ hxl;have main: ∀a b:Nat,a<b->b<P->it f a h0=it f b h0->False:=fun a b hab hb e=>by
  have e2:it f b h0=it f a (it f (b-a) h0):=by rw [<-A7b]; congr 1; omega
  rw [e2] at e;have:=hp.it_inj h (hp.it_lt h _) a e;have:=hmin (b-a) (by omega) this.symm;omega
 rcases Qj9 (p (it f i h0)) i with q | q | q
 ·exact (main _ _ q hi q2).elim
 ·exact q
 ·exact (main _ _ q q1 q2.symm).elim
theorem C32 (x:Nat):oppH x / 2=x / 2:=by unfold oppH; omega
theorem B5u {x y:Nat} (h:x / 2=y / 2):x=y∨x=oppH y:=by unfold oppH; omega
theorem B4e {E x:Nat} (h:x<2*E):oppH x<2*E:=by unfold oppH; omega
def A86 (s:Nat->Nat) (t:Nat->Bool) (x:Nat):Nat:=if t (x / 2)=true then s (oppH x) else s x
structure STree (E n:Nat) (g:Nat->Nat) (t:Nat->Bool):Prop where
 tot:sumR (fun e=>if t e=true then 1 else 0) E=n-1
 few: ∀A:Nat->Bool,(∃v,v<n∧A v=true)->sumR (fun e=>if t e=true∧A (g (2*e))=true∧A (g (2*e+1))=true then 1 else 0) E≤sumR (fun v=>if A v=true then 1 else 0) n-1
 cut: ∀e,e<E->t e=true-> ∃A:Nat->Bool,A (g (2*e))=true∧A (g (2*e+1))=false∧ ∀f,f<E->t f=true->f≠e->A (g (2*f))=A (g (2*f+1))
section
variable {E n:Nat} {s g:Nat->Nat} {t t':Nat->Bool} {p p':Nat->Nat} {h0:Nat}
end
set_option maxHeartbeats 1000000
section
variable {n q:Nat} {M:Nat->Nat->Int}
structure recP (n:Nat) (M:Nat->Nat->Int) (q:Nat) (l:List Int):Prop where
 len:l.length=n
 z:atI l q=0
 st: ∀v,v<n->v≠q->0≤atI l v∧atI l v<valM n M v
 full:(fireG n M (atI l) (n-1) [q]).length=n
end
set_option maxHeartbeats 2000000
section
variable {n q:Nat} {T:Nat->List Nat} {M:Nat->Nat->Int}
def tgt (T:Nat->List Nat) (v t:Nat):Nat:=(T v).getD (t%(T v).length) 0
def gone (T:Nat->List Nat) (v w:Nat):Nat->Int
 | 0=>0
 | t+1=>gone T v w t+if tgt T v (t+1)=w then 1 else 0
def C4I (n q:Nat) (T:Nat->List Nat) (a:Nat->Nat) (w:Nat):Int:=sumR (fun v=>if v=q then 0 else gone T v w (a v)) n-if w=q then 0 else (a w:Int)
def upN (a:Nat->Nat) (v x:Nat):Nat:=if x=v then a x+1 else a x
def C42 (n q:Nat) (T:Nat->List Nat) (D:Nat->Int) (a0 a:Nat->Nat) (w:Nat):Int:=D w+C4I n q T a w-C4I n q T a0 w
structure Rot (n q:Nat) (T:Nat->List Nat) (M:Nat->Nat->Int):Prop where
 hq:q<n
 lt: ∀v x,v<n->x∈T v->x<n
 pos: ∀v,v<n->v≠q->0<(T v).length
 cnt: ∀v w,v<n->w<n->v≠w->((T v).count w:Int)=M v w
inductive Leg (n q:Nat) (T:Nat->List Nat) (D:Nat->Int) (a0:Nat->Nat):(Nat->Nat)->Prop
 | base:Leg n q T D a0 a0
 | step {a:Nat->Nat} {v:Nat} (h:Leg n q T D a0 a) (hv:v<n) (hn:v≠q) (hc:1≤C42 n q T D a0 a v):Leg n q T D a0 (upN a v)
def C33 (n q:Nat) (T:Nat->List Nat) (a:Nat->Nat):Prop:= ∀S:Nat->Bool,S q=false->(∃v,v<n∧S v=true)-> ∃v,v<n∧S v=true∧S (tgt T v (a v))=false
end
set_option maxHeartbeats 2000000
section
variable {n q:Nat} {T:Nat->List Nat} {M:Nat->Nat->Int}
end
set_option maxHeartbeats 2000000
section
variable {n q:Nat} {T:Nat->List Nat} {M:Nat->Nat->Int}
def eB (m C:Nat):Nat->Nat
 | 0=>0
 | j+1=>m*(C+eB m C j+1)
end
set_option maxHeartbeats 2000000
section
variable {n q:Nat} {T:Nat->List Nat} {M:Nat->Nat->Int}
end
end Go.Proofs.YtdbdfkohpjefjaaGreat
