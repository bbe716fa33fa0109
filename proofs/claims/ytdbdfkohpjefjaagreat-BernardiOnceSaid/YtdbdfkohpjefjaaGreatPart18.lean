/- A part of the proof. -/
import Derived.Test.YtdbdfkohpjefjaaGreatPart14
import Derived.Test.YtdbdfkohpjefjaaGreatPart15
set_option linter.all false
set_option maxHeartbeats 4000000
set_option maxRecDepth 100000
namespace Go.Proofs.YtdbdfkohpjefjaaGreat
open Go.Sp
structure PermL (n:Nat) (l:List Int):Prop where
 len:l.length=n
 rng: ∀x,x∈l->0≤x∧x<n
 nd:l.Nodup
def nrm (F:Int->Int) (x:E):E:=⟨min (F x.a) (F x.b),max (F x.a) (F x.b),x.m⟩
structure Ren (g h:G) (n:Nat) (F:Int->Int):Prop where
 c:checkG g=0
 nn:g.n=n
 c':checkG h=0
 nn':h.n=n
 rng: ∀v:Int,0≤v∧v<n->0≤F v∧F v<n
 inj: ∀u v:Int,0≤u∧u<n->0≤v∧v<n->F u=F v->u=v
 perm:h.es.Perm (g.es.map (nrm F))
section
variable {n q:Nat} {M:Nat->Nat->Int}
structure recP (n:Nat) (M:Nat->Nat->Int) (q:Nat) (l:List Int):Prop where
 len:l.length=n
 z:atI l q=0
 st: ∀v,v<n->v≠q->0≤atI l v∧atI l v<valM n M v
 full:(fireG n M (atI l) (n-1) [q]).length=n
end
section
variable {n q:Nat} {T:Nat->List Nat} {M:Nat->Nat->Int}
def tgt (T:Nat->List Nat) (v t:Nat):Nat:=(T v).getD (t%(T v).length) 0
def gone (T:Nat->List Nat) (v w:Nat):Nat->Int
 | 0=>0
 | t+1=>gone T v w t+if tgt T v (t+1)=w then 1 else 0
def C6z (n q:Nat) (T:Nat->List Nat) (a:Nat->Nat) (w:Nat):Int:=sumR (fun v=>if v=q then 0 else gone T v w (a v)) n-if w=q then 0 else (a w:Int)
def upN (a:Nat->Nat) (v x:Nat):Nat:=if x=v then a x+1 else a x
def C6i (n q:Nat) (T:Nat->List Nat) (D:Nat->Int) (a0 a:Nat->Nat) (w:Nat):Int:=D w+C6z n q T a w-C6z n q T a0 w
structure Rot (n q:Nat) (T:Nat->List Nat) (M:Nat->Nat->Int):Prop where
 hq:q<n
 lt: ∀v x,v<n->x∈T v->x<n
 pos: ∀v,v<n->v≠q->0<(T v).length
 cnt: ∀v w,v<n->w<n->v≠w->((T v).count w:Int)=M v w
inductive Leg (n q:Nat) (T:Nat->List Nat) (D:Nat->Int) (a0:Nat->Nat):(Nat->Nat)->Prop
 | base:Leg n q T D a0 a0
 | step {a:Nat->Nat} {v:Nat} (h:Leg n q T D a0 a) (hv:v<n) (hn:v≠q) (hc:1≤C6i n q T D a0 a v):Leg n q T D a0 (upN a v)
def C5h (n q:Nat) (T:Nat->List Nat) (a:Nat->Nat):Prop:= ∀S:Nat->Bool,S q=false->(∃v,v<n∧S v=true)-> ∃v,v<n∧S v=true∧S (tgt T v (a v))=false
end
theorem B8I {α:Type} {P:List α->Prop} (h0:P []) (h1: ∀l x,P l->P (l++[x])) (l:List α):P l:=by
 have: ∀r:List α,P r.reverse:=fun r=>by
  induction r with
  | nil=>exact h0
  | cons x r ih=>rw [List.reverse_cons]; exact h1 _ _ ih
 have:=this l.reverse; rwa [List.reverse_reverse] at this
section
variable {n q:Nat} {T:Nat->List Nat} {M:Nat->Nat->Int}
end
section
variable {n q:Nat} {T:Nat->List Nat} {M:Nat->Nat->Int}
def eB (m C:Nat):Nat->Nat
 | 0=>0
 | j+1=>m*(C+eB m C j+1)
theorem B8J {L:List Nat} (f:Nat->Int):L.Nodup->(∀v,v∈L->v<n)->sumR (fun v=>if v∈L then f v else 0) n=sumR (fun i=>f (L.getD i 0)) L.length:=by
 refine B8I (P:=fun L=>L.Nodup->(∀v,v∈L->v<n)->sumR (fun v=>if v∈L then f v else 0) n=sumR (fun i=>f (L.getD i 0)) L.length) ?_ ?_ L
 ·intro _ _; exact A1x fun v _=>by simp
 ·intro L x ih hnd hlt;have hx:x∉L:=fun hx=>(WX.1 hnd).2.2 x hx x (by simp) rfl;have h1:=ih (WX.1 hnd).1 fun v hv=>hlt v (by simp [hv]);rw [Xv,List.length_singleton,sumR];have e1:sumR (fun v=>if v∈L++[x] then f v else 0) n=sumR (fun v=>(if v∈L then f v else 0)+if v=x then f x else 0) n:=A0w fun v _=>by
   by_cases e:v=x
   ·subst e; simp [hx]
   ·simp [e]
  have e2:sumR (fun i=>f ((L++[x]).getD i 0)) L.length=sumR (fun i=>f (L.getD i 0)) L.length:=A0w fun i hi=>by
   rw [Qz,Qv hi,<-Qz]
  rw [e1,e2,A1A,A2N _ _ (hlt x (by simp)),h1];simp
end
section
variable {n q:Nat} {T:Nat->List Nat} {M:Nat->Nat->Int}
end
end Go.Proofs.YtdbdfkohpjefjaaGreat
