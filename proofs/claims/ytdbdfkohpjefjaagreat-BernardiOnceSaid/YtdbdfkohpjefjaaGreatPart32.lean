/- A part of the proof. -/
import Derived.Test.YtdbdfkohpjefjaaGreatPart26
import Derived.Test.YtdbdfkohpjefjaaGreatPart27
import Derived.Test.YtdbdfkohpjefjaaGreatPart28
set_option linter.all false
set_option maxHeartbeats 4000000
set_option maxRecDepth 100000
namespace Go.Proofs.YtdbdfkohpjefjaaGreat
open Go.Sp
def A1R (g:G) (a b:Int):Bool:=decide (g.es.length≤40)&&(decide (checkG g≠0)||(decide (g.n≤a)&&decide (((endsL g.es).length:Int)≤b)))
theorem B5j (g:G) (a b:Int):ACall Tryz.prog 97 [tG g,A0k a,A0k b] (A0z (A1R g a b)):=by
 refine ACall.of_body Tryz.func97 rfl (by kernel_rfl) ?_;simp only [entry,Tryz.ntmps97,tG,A0k];refine zU ?_;by_cases hl:g.es.length≤40
 ·by_cases hc:checkG g=0
  ·have hs:=A9y (g:=g) (by omega) hc;have e:A1R g a b=(decide (g.n≤a)&&decide (((endsL g.es).length:Int)≤b)):=by unfold A1R; rw [decide_eq_true hl,hc,Vw,show decide ((0:Int)≠0)=false by decide,Qq2]
   rw [e];by_cases hn:g.n≤a
   ·rw [decide_eq_true hn,Vw];refine zR (zc @A06 (zc @hc (zc @hn Qw9))) (zc (A6m g (by omega)) (zc (A32 g hs.s hs.es hs.m) Qw9)) Qw9 ?_;simp [A0y,A0x,Blk.cells,ty,Tryz.results97,A0s,A0t,toT,A0d,A0b,A0c,A0a,A0z]
   ·rw [decide_eq_false hn,VW];refine zR (zc @A06 (zc @hc (zc @hn Qw9))) (zc (A6m g (by omega)) (zc (A32 g hs.s hs.es hs.m) Qw9)) Qw9 ?_;simp [A0y,A0x,Blk.cells,ty,Tryz.results97,A0s,A0t,toT,A0d,A0b,A0c,A0a,A0z]
  ·
   refine zR (zc @A06 Qw9) (zc (A6m g (by omega)) Qw9) Qw9 ?_;have e:A1R g a b=true:=by unfold A1R; rw [decide_eq_true hl,decide_eq_true (show checkG g≠0 from hc)]; rfl
   simp [A0y,A0x,Blk.cells,ty,Tryz.results97,A0s,A0t,toT,A0d,A0b,A0c,A0a,A0z,e]
 ·
  refine zR (zc @A06 Qw9) Qw9 Qw9 ?_;have e:A1R g a b=false:=by unfold A1R; rw [decide_eq_false hl]; rfl
  simp [A0y,A0x,Blk.cells,ty,Tryz.results97,A0s,A0t,toT,A0d,A0b,A0c,A0a,A0z,e]
theorem C3R (g:G):ACall Tryz.prog 49 [tG g] (A0z (A1R g 6 9)):=by
 have h:=B5j g 6 9;generalize A1R g 6 9=b at*;obtain ⟨n,es⟩:=g;refine ACall.of_body Tryz.func49 rfl (by kernel_rfl) ?_;simp only [entry,Tryz.ntmps49,tG];refine zU ?_;refine zR Qw9 (zc h Qw9) Qw9 ?_;simp [A0y,A0x,Blk.cells,ty,Tryz.results49,A0s,A0t,toT,A0d,A0b,A0c,A0a,A0z]
def C4E (r:R):Bool:=A1R r.g 6 9&&(decide (r.ar.length≤20)&&r.ar.all fun l=>decide (l.length≤40))
theorem C3S (r:R):ACall Tryz.prog 10 [tR r] (A0z (C4E r)):=by
 have hG:=C3R r.g;unfold C4E;obtain ⟨n,es,ar⟩:=r;simp only [R.g] at hG ⊢;generalize A1R ⟨n,es⟩ 6 9=b at*;refine ACall.of_body Tryz.func10 rfl (by kernel_rfl) ?_;simp only [entry,Tryz.ntmps10,tR];refine zU ?_;cases b with
 | false=>
  rw [VW];refine zR Qw9 (zc hG Qw9) Qw9 ?_;simp [A0y,A0x,Blk.cells,ty,Tryz.results10,A0s,A0t,toT,A0d,A0b,A0c,A0a,A0z]
 | true=>
  rw [Vw];by_cases hl:ar.length≤20
  case neg=>
   have hlI:20<(ar.length:Int):=by omega
   rw [decide_eq_false hl,VW];refine zR (zc @A0o (zc @hlI Qw9)) (zc hG Qw9) Qw9 ?_;simp [A0y,A0x,Blk.cells,ty,Tryz.results10,A0s,A0t,toT,A0d,A0b,A0c,A0a,A0z]
  have hlI: ¬(20<(ar.length:Int)):=by omega
  rw [decide_eq_true hl,Vw];refine zR (zc @A0o (zc @hlI Qw9)) (zc hG Qw9) Qw9 ?_;refine AWp.loopS (α:=Nat) 28 (fun i=>[(1,.c (.ptr 0 0)),(3,.c (.int .i64 (i:Int)))]) (fun i=>[.box [.int .i64 n,.slice (A0f es) .none,.slice (A00 ar) .none]]) (fun i=>i≤ar.length∧ ∀k l,k<i->ar[k]? =some l->l.length≤40) (fun i=>ar.length-i) (0) (hk:=Weak.headL 1 28 [1,3] zW) (h0:=?_) (round:=fun i hI=>?_)
  ·exact ⟨Xj _,fun k l hk=>absurd hk (Nat.not_lt_zero _)⟩
  ·obtain ⟨hi,hI2⟩:=hI;by_cases hlt:i<ar.length
   ·have hltI:(i:Int)<ar.length:=by omega
    have e0:=Qq hlt;have e1:=A0W e0;generalize hx:ar[i]=l at*;by_cases hll:l.length≤40
    ·have hllI: ¬(40<(l.length:Int)):=by omega
     refine zR (zc @hltI (zc @A0o (zc @A0e (zc @e1 (zc @hllI Qw9))))) Qw9 Qw9 ?_;refine ⟨i+1,Weak.headN 1 28 [1,3] zW,?_,?_⟩
     ·refine ⟨hlt,fun k m hk hm=> ?_⟩;by_cases e:k=i
      ·subst e; rw [e0] at hm; cases hm; exact hll
      ·exact hI2 k m (by omega) hm
     ·omega
    ·have hllI:40<(l.length:Int):=by omega
     have e:(ar.all fun l=>decide (l.length≤40))=false:=by
      rw [<-Qq5,Zv];intro h;have:=h l (Qy e0);exact hll (by simpa using this)
     rw [e];refine zR (zc @hltI (zc @A0o (zc @A0e (zc @e1 (zc @hllI Qw9))))) Qw9 Qw9 ?_;simp [A0y,A0x,Blk.cells,ty,Tryz.results10,A0s,A0t,toT,A0d,A0b,A0c,A0a,A0z]
   ·have e:(ar.all fun l=>decide (l.length≤40))=true:=by
     rw [Zv];intro l hl2;obtain ⟨k,hk,rfl⟩:=YJ.1 hl2;exact decide_eq_true (hI2 k _ (by omega) (Qq hk))
    rw [e];have hnl: ¬((i:Int)<ar.length):=by omega
    refine zR (zc @hnl (zc @A0o Qw9)) Qw9 Qw9 ?_;simp [A0y,A0x,Blk.cells,ty,Tryz.results10,A0s,A0t,toT,A0d,A0b,A0c,A0a,A0z]
theorem B9x {r:R} (h:C4E r=true):RSm r:=by
 unfold C4E A1R at h;simp only [XY,decide_eq_true_eq,Zv] at h;exact ⟨h.1.1,by omega,fun l hl=>by have:=h.2.2 l hl; omega⟩
theorem B3W (h:Nat) (hh:h<2^40):ACall Tryz.prog 41 [A0k h] (A0k (oppH h:Nat)):=by
 have e:((oppH h:Nat):Int)=(h:Int)+1-2*((h%2:Nat):Int):=by unfold oppH; omega
 rw [e];refine ACall.of_body Tryz.func41 rfl (by kernel_rfl) ?_;simp only [entry,Tryz.ntmps41,A0k];refine zU ?_;have hm:h%2=0∨h%2=1:=by omega
 rcases hm with hm | hm
 ·
  refine zR (zc @B6h (zc @hm Qw9)) Qw9 Qw9 ?_;simp [A0y,A0x,Blk.cells,ty,Tryz.results41,A0s,A0t,toT,A0d,A0b,A0c,A0a,A0k,hm]
 ·
  refine zR (zc @B6h (zc @hm Qw9)) Qw9 Qw9 ?_;simp [A0y,A0x,Blk.cells,ty,Tryz.results41,A0s,A0t,toT,A0d,A0b,A0c,A0a,A0k,hm]
theorem C3T {g:G} (hl:g.es.length≤40) (hj:A0r g=0):RSm ⟨g.n,g.es,A1h (endsL g.es) g.n.toNat (2*(endsL g.es).length)⟩:=by
 have hc:checkG g=0:=by
  unfold A0r at hj;by_cases h:checkG g=0
  ·exact h
  ·rw [if_pos h] at hj; exact absurd hj h
 have h12:=(A0h.1 hc).1;have hlen:=A1B hl hc;refine ⟨hl,by simp only [A0H]; omega,fun l hm=> ?_⟩;obtain ⟨v,_,rfl⟩:=QJ.1 hm;have:=A7O (endsL g.es) (v:Int) (2*(endsL g.es).length);omega
end Go.Proofs.YtdbdfkohpjefjaaGreat
