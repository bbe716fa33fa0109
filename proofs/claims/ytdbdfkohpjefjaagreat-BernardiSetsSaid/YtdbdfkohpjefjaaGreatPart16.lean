/- A part of the proof. -/
import Derived.Test.YtdbdfkohpjefjaaGreatPart09
set_option linter.all false
set_option maxHeartbeats 4000000
set_option maxRecDepth 100000
namespace Go.Proofs.YtdbdfkohpjefjaaGreat
open Go.Sp
set_option maxHeartbeats 1000000
section
variable {n:Nat} {M:Nat->Nat->Int}
theorem B1L {α β:Type} {f:α->β} {l:List α} (hl:l.Nodup) (hf: ∀x,x∈l-> ∀y,y∈l->f x=f y->x=y):(l.map f).Nodup:=by
 show List.Pairwise _ _;rw [Jj];exact List.Pairwise.imp_of_mem (fun {x y} hx hy h e=>h (hf x hx y hy e)) hl
def atI (l:List Int) (v:Nat):Int:=l.getD v 0
end
set_option maxHeartbeats 1000000
section
variable {n a b:Nat} {M:Nat->Nat->Int}
end
set_option maxHeartbeats 1000000
section
variable {n q:Nat} {M:Nat->Nat->Int} {c:Nat->Int}
def valM (n:Nat) (M:Nat->Nat->Int) (v:Nat):Int:=sumR (M v) n
def catchP (n:Nat) (M:Nat->Nat->Int) (c:Nat->Int) (L:List Nat) (v:Nat):Bool:=decide (v∉L)&&decide (valM n M v≤c v+inA n M (fun u=>decide (u∈L)) v)
def fireG (n:Nat) (M:Nat->Nat->Int) (c:Nat->Int):Nat->List Nat->List Nat
 | 0,L=>L
 | k+1,L=>match (List.range n).find? (catchP n M c L) with
  | some v=>fireG n M c k (L++[v])
  | none=>L
structure Burns (n:Nat) (M:Nat->Nat->Int) (c:Nat->Int) (q:Nat) (L:List Nat):Prop where
 nd:L.Nodup
 lt: ∀v,v∈L->v<n
 hd:L[0]? =some q
 ct: ∀i v,1≤i->L[i]? =some v->catchP n M c (L.take i) v=true
end
set_option maxHeartbeats 1000000
section
variable {n q:Nat} {M:Nat->Nat->Int}
structure recP (n:Nat) (M:Nat->Nat->Int) (q:Nat) (l:List Int):Prop where
 len:l.length=n
 z:atI l q=0
 st: ∀v,v<n->v≠q->0≤atI l v∧atI l v<valM n M v
 full:(fireG n M (atI l) (n-1) [q]).length=n
end
set_option maxHeartbeats 2000000
section
variable {n q:Nat} {T:Nat->List Nat} {M:Nat->Nat->Int}
def tgt (T:Nat->List Nat) (v t:Nat):Nat:=(T v).getD (t%(T v).length) 0
def gone (T:Nat->List Nat) (v w:Nat):Nat->Int
 | 0=>0
 | t+1=>gone T v w t+if tgt T v (t+1)=w then 1 else 0
def C5m (n q:Nat) (T:Nat->List Nat) (a:Nat->Nat) (w:Nat):Int:=sumR (fun v=>if v=q then 0 else gone T v w (a v)) n-if w=q then 0 else (a w:Int)
def upN (a:Nat->Nat) (v x:Nat):Nat:=if x=v then a x+1 else a x
def C4T (n q:Nat) (T:Nat->List Nat) (D:Nat->Int) (a0 a:Nat->Nat) (w:Nat):Int:=D w+C5m n q T a w-C5m n q T a0 w
structure Rot (n q:Nat) (T:Nat->List Nat) (M:Nat->Nat->Int):Prop where
 hq:q<n
 lt: ∀v x,v<n->x∈T v->x<n
 pos: ∀v,v<n->v≠q->0<(T v).length
 cnt: ∀v w,v<n->w<n->v≠w->((T v).count w:Int)=M v w
inductive Leg (n q:Nat) (T:Nat->List Nat) (D:Nat->Int) (a0:Nat->Nat):(Nat->Nat)->Prop
 | base:Leg n q T D a0 a0
 | step {a:Nat->Nat} {v:Nat} (h:Leg n q T D a0 a) (hv:v<n) (hn:v≠q) (hc:1≤C4T n q T D a0 a v):Leg n q T D a0 (upN a v)
def C3S (n q:Nat) (T:Nat->List Nat) (a:Nat->Nat):Prop:= ∀S:Nat->Bool,S q=false->(∃v,v<n∧S v=true)-> ∃v,v<n∧S v=true∧S (tgt T v (a v))=false
end
set_option maxHeartbeats 2000000
section
variable {n q:Nat} {T:Nat->List Nat} {M:Nat->Nat->Int}
end
set_option maxHeartbeats 2000000
section
variable {n q:Nat} {T:Nat->List Nat} {M:Nat->Nat->Int}
def eB (m C:Nat):Nat->Nat
 | 0=>0
 | j+1=>m*(C+eB m C j+1)
end
set_option maxHeartbeats 2000000
section
variable {n q:Nat} {T:Nat->List Nat} {M:Nat->Nat->Int}
end
end Go.Proofs.YtdbdfkohpjefjaaGreat
