/- A part of the proof. -/
import Derived.Test.YtdbdfkohpjefjaaGreatPart21
import Derived.Test.YtdbdfkohpjefjaaGreatPart24
set_option linter.all false
set_option maxHeartbeats 4000000
set_option maxRecDepth 100000
namespace Go.Proofs.YtdbdfkohpjefjaaGreat
open Go.Sp
theorem B5M (g:G) (hl:g.es.length≤40) (hc:checkG g=0):ACall Tryz.prog 86 [tG g] (A0B (endsL g.es)):=by
 have hs:=B5p (g:=g) (by omega) hc;exact B3V g hs.s hs.es hs.m
theorem A6P (g:G) (hl:g.es.length≤40) (hc:checkG g=0):ACall Tryz.prog 48 [tG g] (A0v (connB g)):=by
 have h12:=(A0j.1 hc).1;have hP:=B4i g g.n.toNat hc (by omega) (by omega);unfold connB;generalize A1J g.es g.n.toNat g.n.toNat=k at*;have e:decide (k=1)=decide ((k:Int)=1):=decide_eq_decide.2 (by omega);rw [e];obtain ⟨n,es⟩:=g;refine ACall.of_body Tryz.func48 rfl (by kernel_rfl) ?_;simp only [entry,Tryz.ntmps48,tG];refine zU ?_;refine zR Qw8 (zc hP Qw8) Qw8 ?_;simp [A0z,A0y,Blk.cells,ty,Tryz.results48,A0t,A0u,toT,A0d,A0b,A0c,A0a,A0v]
theorem A7i (g:G) (hl:g.es.length≤40):ACall Tryz.prog 43 [tG g] (A0m (A0s g)):=by
 have hC:=A46 g (by omega);unfold A0s;by_cases hc:checkG g=0
 ·have hK:=A6P g hl hc;have hCn:=hK;clear hK;rw [if_neg (by omega)];rw [hc] at hC;generalize connB g=b at*;obtain ⟨n,es⟩:=g;refine ACall.of_body Tryz.func43 rfl (by kernel_rfl) ?_;simp only [entry,Tryz.ntmps43,tG];refine zU ?_;cases b with
  | true=>
   rw [if_pos rfl];refine zR Qw8 (zc hC (zc hCn Qw8)) Qw8 ?_;simp [A0z,A0y,Blk.cells,ty,Tryz.results43,A0t,A0u,toT,A0d,A0b,A0c,A0a,A0m]
  | false=>
   rw [if_neg (by simp)];refine zR Qw8 (zc hC (zc hCn Qw8)) Qw8 ?_;simp [A0z,A0y,Blk.cells,ty,Tryz.results43,A0t,A0u,toT,A0d,A0b,A0c,A0a,A0m]
 ·rw [if_pos hc];generalize checkG g=E at*;obtain ⟨n,es⟩:=g;refine ACall.of_body Tryz.func43 rfl (by kernel_rfl) ?_;simp only [entry,Tryz.ntmps43,tG];refine zU ?_;refine zR (zc @hc Qw8) (zc hC Qw8) Qw8 ?_;simp [A0z,A0y,Blk.cells,ty,Tryz.results43,A0t,A0u,toT,A0d,A0b,A0c,A0a,A0m]
set_option maxHeartbeats 1000000
structure NG (g:G) (n:Nat) (L:List (Nat×Nat)):Prop where
 hn:g.n=n
 h1:1≤n
 h12:n≤12
 ends:endsL g.es=LI L
 lt: ∀p,p∈L->p.1<n∧p.2<n
 len:L.length≤2000
def tB (L:List (Nat×Nat)) (v:Nat) (B:List Nat):Bool:=B.any fun e=>decide ((edL L e).1≠(edL L e).2)&&(decide ((edL L e).1=v)||decide ((edL L e).2=v))
end Go.Proofs.YtdbdfkohpjefjaaGreat
