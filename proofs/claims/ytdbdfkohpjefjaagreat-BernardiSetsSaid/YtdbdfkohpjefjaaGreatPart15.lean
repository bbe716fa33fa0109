/- A part of the proof. -/
import Derived.Test.YtdbdfkohpjefjaaGreatPart09
import Derived.Test.YtdbdfkohpjefjaaGreatLayerD
set_option linter.all false
set_option maxHeartbeats 4000000
set_option maxRecDepth 100000
namespace Go.Proofs.YtdbdfkohpjefjaaGreat
open Go.Sp
set_option maxHeartbeats 1000000
section
variable {n:Nat} {M:Nat->Nat->Int}
end
set_option maxHeartbeats 2000000
structure TourP (N:Nat) (f:Nat->Nat) (h0:Nat) (p:Nat->Nat):Prop where
 lt: ∀x,x<N->p x<N
 at_: ∀x,x<N->it f (p x) h0=x
 back: ∀i,i<N->p (it f i h0)=i
 pl: ∀i,it f i h0<N
 per:it f N h0=h0
 beg:h0<N
theorem C2t {N:Nat} {f:Nat->Nat} (hp:PermN N f) {h0:Nat} (h:h0<N) (hc: ∀x,x<N-> ∃i,x=it f i h0): ∃p,TourP N f h0 p:=by
 have hmod: ∀d,1≤d->it f d h0=h0-> ∀i,it f i h0=it f (i%d) h0:=fun d hd he i=>by
  have hk: ∀k,it f (d*k) h0=h0:=fun k=>by
   induction k with
   | zero=>rfl
   | succ k ih=>rw [Nat.mul_succ,A7c,he,ih]
  have:i=i%d+d*(i / d):=(Nat.mod_add_div i d).symm;have e:it f i h0=it f (i%d+d*(i / d)) h0:=by rw [<-this]
  rw [e,A7c,hk]
 have hmin: ∀d,1≤d->it f d h0=h0->N≤d:=fun d hd he=>by
  have:=WJ (l₁:=List.range N) (l₂:=(List.range d).map fun i=>it f i h0) Qx4 fun x hx=>by
   obtain ⟨i,hi⟩:=hc x (XQ.1 hx);exact Xq.2 ⟨i%d,XQ.2 (Qq0 _ (by omega)),by rw [hi,<-hmod d hd he i]⟩
  simpa using this
 obtain ⟨P,p1,p2,p3⟩:=hp.period h;have hPN:P=N:=by have:=hmin P p1 p3; omega
 subst hPN;have hex: ∀x,∃i,x<P->i<P∧it f i h0=x:=fun x=>by
  by_cases hx:x<P
  ·obtain ⟨i,hi⟩:=hc x hx;exact ⟨i%P,fun _=>⟨Qq0 _ (by omega),by rw [<-hmod P p1 p3 i,<-hi]⟩⟩
  ·exact ⟨0,fun h=>absurd h hx⟩
 obtain ⟨p,hpp⟩:=Classical.axiomOfChoice hex;refine ⟨p,fun x hx=>(hpp x hx).1,fun x hx=>(hpp x hx).2,fun i hi=> ?_,fun i=>hp.it_lt h i,p3,h⟩;have hxl:=hp.it_lt h i;obtain ⟨q1,q2⟩:=hpp _ hxl;have main: ∀a b:Nat,a<b->b<P->it f a h0=it f b h0->False:=fun a b hab hb e=>by
  have e2:it f b h0=it f a (it f (b-a) h0):=by rw [<-A7c]; congr 1; omega
  rw [e2] at e;have:=hp.it_inj h (hp.it_lt h _) a e;have:=hmin (b-a) (by omega) this.symm;omega
 rcases Qw3 (p (it f i h0)) i with q | q | q
 ·exact (main _ _ q hi q2).elim
 ·exact q
 ·exact (main _ _ q q1 q2.symm).elim
theorem C3R (x:Nat):oppH x / 2=x / 2:=by unfold oppH; omega
theorem B52 {x y:Nat} (h:x / 2=y / 2):x=y∨x=oppH y:=by unfold oppH; omega
theorem B7B {E x:Nat} (h:x<2*E):oppH x<2*E:=by unfold oppH; omega
def A8z (s:Nat->Nat) (t:Nat->Bool) (x:Nat):Nat:=if t (x / 2)=true then s (oppH x) else s x
structure STree (E n:Nat) (g:Nat->Nat) (t:Nat->Bool):Prop where
 tot:sumR (fun e=>if t e=true then 1 else 0) E=n-1
 few: ∀A:Nat->Bool,(∃v,v<n∧A v=true)->sumR (fun e=>if t e=true∧A (g (2*e))=true∧A (g (2*e+1))=true then 1 else 0) E≤sumR (fun v=>if A v=true then 1 else 0) n-1
 cut: ∀e,e<E->t e=true-> ∃A:Nat->Bool,A (g (2*e))=true∧A (g (2*e+1))=false∧ ∀f,f<E->t f=true->f≠e->A (g (2*f))=A (g (2*f+1))
section
variable {E n:Nat} {s g:Nat->Nat} {t t':Nat->Bool} {p p':Nat->Nat} {h0:Nat}
end
end Go.Proofs.YtdbdfkohpjefjaaGreat
