/- A part of the proof. -/
import Derived.Test.YtdbdfkohpjefjaaGreatPart41
import Derived.Test.YtdbdfkohpjefjaaGreatPart42
set_option linter.all false
set_option maxHeartbeats 4000000
set_option maxRecDepth 100000
namespace Go.Proofs.YtdbdfkohpjefjaaGreat
open Go.Sp
structure RightS (r:R):Prop where
 hs:RSm r
 rib:ribE r=0
 rok:ROk r
 ends:(endsL r.es).length≤8
 ver:r.n≤5
 few:(treesG r.g).length≤24
theorem B6h (r:R) (t:List Int) (htl:t.length≤2^63-1):ACall Tryz.prog 3 [tR r,A0m t] (A01 true):=by
 have hA:=B6g;have f1:=C2w r;by_cases hr:C3M r=true
 case neg=>
  simp only [Qq1] at hr;rw [hr] at f1;obtain ⟨n,es,ar⟩:=r;refine ACall.of_body Tryz.func3 rfl (by kernel_rfl) ?_;simp only [entry,Tryz.ntmps3,tR,A0m];refine zU ?_;refine zR Qw6 (zc f1 (zc hA Qw6)) Qw6 ?_;simp [A0y,A0x,Blk.cells,ty,Tryz.results3,A0s,A0u,toT,A0e,A0b,A0c,A0a,A01]
 rw [hr] at f1;by_cases h30:t.length≤30
 case neg=>
  have hI:(30:Int)<(t.length:Int):=by omega
  obtain ⟨n,es,ar⟩:=r;refine ACall.of_body Tryz.func3 rfl (by kernel_rfl) ?_;simp only [entry,Tryz.ntmps3,tR,A0m];refine zU ?_;refine zR (zc @A0d (zc @hI Qw6)) (zc f1 (zc hA Qw6)) Qw6 ?_;simp [A0y,A0x,Blk.cells,ty,Tryz.results3,A0s,A0u,toT,A0e,A0b,A0c,A0a,A01]
 have hI: ¬(30:Int)<(t.length:Int):=by omega
 have hs:=C1o hr;have htl:t.length<2^40:=by omega
 have c1:=B2d r t hs htl;have c2:=B5S r t hs (by omega);have c3:=A7k r t hs htl;have c4:=B0L r t hs (by omega);have hel:A5e r t=0->(endsL r.es).length≤2^30:=fun h=>by
  have h1:=(A3Q h).1.ok;have:=A1t hs.es h1.c;have e:(endsL r.g.es).length=(endsL r.es).length:=rfl;omega
 have hnl:A5e r t=0->r.n.toNat≤12:=fun h=>by
  have h1:=(A3Q h).1.ok;have:=(A0j.1 h1.c).1;have e:r.g.n=r.n:=rfl;omega
 have l1:(if A5e r t≠0 then [] else tourL r t (2*(endsL r.es).length)).length<2^40:=by
  split
  ·decide
  ·rename_i h; rw [A6q]; have:=hel (Classical.not_not.1 h); omega
 have l2:(if A5e r t≠0 then [] else A4a r t).length<2^40:=by
  split
  ·decide
  ·rename_i h; rw [B0K]; have:=hnl (Classical.not_not.1 h); omega
 generalize (if A5e r t≠0 then [] else tourL r t (2*(endsL r.es).length))=a at*;generalize (if A5e r t≠0 then [] else A4a r t)=b at*;have s1:=B3n a a l1 l1;have s2:=B2f b b l2 l2;rw [decide_eq_true rfl] at s1 s2;generalize A5e r t=e at*;clear hr hs hel hnl;obtain ⟨n,es,ar⟩:=r;refine ACall.of_body Tryz.func3 rfl (by kernel_rfl) ?_;simp only [entry,Tryz.ntmps3,tR,A0m];refine zU ?_;refine zR (zc @A0d (zc @hI Qw6)) (zc f1 (zc c1 (zc c2 (zc c3 (zc c4 (zc hA (zc s1 (zc s2 Qw6)))))))) Qw6 ?_;simp [A0y,A0x,Blk.cells,ty,Tryz.results3,A0s,A0u,toT,A0e,A0b,A0c,A0a,A01]
end Go.Proofs.YtdbdfkohpjefjaaGreat
