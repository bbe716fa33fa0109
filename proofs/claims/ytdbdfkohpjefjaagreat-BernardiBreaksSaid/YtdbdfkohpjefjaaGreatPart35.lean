/- A part of the proof. -/
import Derived.Test.YtdbdfkohpjefjaaGreatPart33
import Derived.Test.YtdbdfkohpjefjaaGreatPart34
set_option linter.all false
set_option maxHeartbeats 4000000
set_option maxRecDepth 100000
namespace Go.Proofs.YtdbdfkohpjefjaaGreat
open Go.Sp
def B8f (g:G):A2p g 5 8=true->g.es.length≤40∧(checkG g=0->(endsL g.es).length≤8):=fun h=>⟨(A9O h).1,fun hc=>((A9O h).2 hc).1⟩
def B8g {g:G} (h:C1K g=true):A2p g 5 8=true∧(A0m g=0->(treesG g).length≤24):=by
 unfold C1K at h;rw [XV,YV,decide_eq_true_eq,decide_eq_true_eq] at h;refine ⟨h.1,fun hj=> ?_⟩;rcases h.2 with q | q
 ·exact absurd hj q
 ·rw [<-B2e (A0M hj).1,B1e] at q; exact q
structure RightS (r:R):Prop where
 hs:RSm r
 rib:ribE r=0
 rok:ROk r
 ends:(endsL r.es).length≤8
 ver:r.n≤5
 few:(treesG r.g).length≤24
def B5p (g:G) (d:List Int) (hdl:d.length≤2^63-1):ACall Tryz.prog 7 [tG g,A0k d] (A0q true):=by
 have hA:=B8e;have f1:=C3G g (B8f g);have f2:=C3K d hdl;by_cases hr:C1K g=true
 case neg=>
  simp only [Qx3] at hr;rw [hr] at f1;obtain ⟨n,es⟩:=g;refine ACall.of_body Tryz.func7 rfl (by kernel_rfl) ?_;simp only [entry,Tryz.ntmps7,tG,A0k];refine zU ?_;refine zR Qv5 (zc f1 (zc hA Qv5)) Qv5 ?_;simp [A0s,A0r,Blk.cells,ty,Tryz.results7,A0o,A0p,toT,A0d,A0b,A0c,A0a,A0q]
 rw [hr] at f1;by_cases hl:C3J d=true
 case neg=>
  simp only [Qx3] at hl;rw [hl] at f2;obtain ⟨n,es⟩:=g;refine ACall.of_body Tryz.func7 rfl (by kernel_rfl) ?_;simp only [entry,Tryz.ntmps7,tG,A0k];refine zU ?_;refine zR Qv5 (zc f1 (zc f2 (zc hA Qv5))) Qv5 ?_;simp [A0s,A0r,Blk.cells,ty,Tryz.results7,A0o,A0p,toT,A0d,A0b,A0c,A0a,A0q]
 rw [hl] at f2;replace hdl:d.length<2^40:=by
  unfold C3J at hl;rw [XV,decide_eq_true_eq] at hl;omega
 obtain ⟨d1,d2⟩:=B8g hr;obtain ⟨e1,e2⟩:=A9O d1;have hne:A0m g=0->B2q g≠[]:=C7h;have hE9:checkG g=0->(endsL g.es).length≤9:=fun hc=>by have:=(e2 hc).1; omega
 have hag:(decide (B8q g d=0)&&B7S g d)=(decide (B8q g d=0)&&decide (d∈B2d g)):=by
  by_cases h0:B8q g d=0
  ·congr 1;unfold B8q at h0;by_cases hj:A0m g=0
   ·rw [if_neg (by omega)] at h0;have h12:=(A0h.1 (A0M hj).1).1;obtain ⟨n,hn⟩: ∃n:Nat,g.n=n:=⟨g.n.toNat,by omega⟩;rw [hn] at h0;exact C1B hj (by have:=(B5d h0).2.2.1; omega)
   ·rw [if_pos hj] at h0; exact absurd h0 hj
  ·rw [decide_eq_false h0,VW,VW]
 have c1:=C39 g d e1 hdl;have c2:=B5l g d e1 hdl hE9 hne;have c3:=C1F g e1 (fun h=>by have:=d2 h; omega);have c4:=C1w g e1 hE9 hne;rw [<-hag] at c2;have hll: ∀l,l∈(if A0m g≠0 then [] else B2d g)->l.length<2^40:=fun l hl=>by
  split at hl
  ·cases hl
  ·rename_i h;have hj:=Classical.not_not.1 h;have h12:=(A0h.1 (A0M hj).1).1;have:=((B5m hj).1 (B5k.1 hl)).1;omega
 have hl2:(if A0m g≠0 then [] else sortLL (B8r g))=(if A0m g≠0 then [] else B2d g):=by
  split
  ·rfl
  ·rename_i h; exact C1H (Classical.not_not.1 h)
 have hl3:(if A0m g≠0 then [] else B2d g).length<2^40:=by
  split
  ·decide
  ·rename_i h;have hj:=Classical.not_not.1 h;rw [<-C1H hj,(A1k _).length_eq];have:(B8r g).length=(treesG g).length:=by unfold B8r; rw [XW,B1e]
   have:=d2 hj; omega
 rw [hl2] at c3;have s1:=A7U _ _ hl3 hl3 hll hll;rw [decide_eq_true rfl] at s1;clear hll hl2 hl3 hne hE9 hag hr hl;generalize (if A0m g≠0 then [] else B2d g)=L at*;generalize (decide (B8q g d=0)&&B7S g d)=b at*;generalize A0m g=j at*;generalize B8q g d=k at*;clear d1 d2 e1 e2;obtain ⟨n,es⟩:=g;cases b
 ·
  refine ACall.of_body Tryz.func7 rfl (by kernel_rfl) ?_;simp only [entry,Tryz.ntmps7,tG,A0k];refine zU ?_;refine zR Qv5 (zc f1 (zc f2 (zc c1 (zc c2 (zc c3 (zc c4 (zc hA (zc s1 Qv5)))))))) Qv5 ?_;simp [A0s,A0r,Blk.cells,ty,Tryz.results7,A0o,A0p,toT,A0d,A0b,A0c,A0a,A0q]
 ·
  refine ACall.of_body Tryz.func7 rfl (by kernel_rfl) ?_;simp only [entry,Tryz.ntmps7,tG,A0k];refine zU ?_;refine zR Qv5 (zc f1 (zc f2 (zc c1 (zc c2 (zc c3 (zc c4 (zc hA (zc s1 Qv5)))))))) Qv5 ?_;simp [A0s,A0r,Blk.cells,ty,Tryz.results7,A0o,A0p,toT,A0d,A0b,A0c,A0a,A0q]
end Go.Proofs.YtdbdfkohpjefjaaGreat
