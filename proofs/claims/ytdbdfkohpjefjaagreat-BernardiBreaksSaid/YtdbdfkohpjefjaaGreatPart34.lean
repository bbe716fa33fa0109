/- A part of the proof. -/
import Derived.Test.YtdbdfkohpjefjaaGreatPart31
set_option linter.all false
set_option maxHeartbeats 4000000
set_option maxRecDepth 100000
namespace Go.Proofs.YtdbdfkohpjefjaaGreat
open Go.Sp
def C4x (k:Int):Bool:=(decide (1000<k)||decide (k< -1000))&&inD k
def C3J (d:List Int):Bool:=(d.take 20).all (fun k=> !C4x k)&&decide (d.length≤20)
def A9O {g:G} (h:A2p g 5 8=true):g.es.length≤40∧(checkG g=0->(endsL g.es).length≤8∧g.n≤5):=by
 unfold A2p at h;simp only [XV,YV,decide_eq_true_eq] at h;refine ⟨h.1,fun hc=> ?_⟩;rcases h.2 with q | q
 ·exact absurd hc q
 ·exact ⟨by have:=q.2; omega,q.1⟩
def C3K (d:List Int) (hdl:d.length≤2^63-1):ACall Tryz.prog 19 [A0k d] (A0q (C3J d)):=by
 unfold C3J;refine ACall.of_body Tryz.func19 rfl (by kernel_rfl) ?_;simp only [entry,Tryz.ntmps19,A0k];refine zU ?_;refine zR Qv5 Qv5 Qv5 ?_;refine AWp.loopS (α:=Nat) 36 (fun i=>[(0,.c (.slice (A0l d) .none)),(3,.c (.int .i64 (i:Int)))]) (fun i=>[]) (fun i=>i≤d.length∧i≤20∧(d.take i).all (fun k=> !C4x k)=true) (fun i=>20-i) (0) (hk:=Weak.headL 0 36 [0,3] zW) (h0:=?_) (round:=fun i hI=>?_)
 ·exact ⟨Xj _,by omega,rfl⟩
 ·obtain ⟨hi,h20,hp⟩:=hI;by_cases hlt:i<d.length
  ·have hltI:(i:Int)<(d.length:Int):=by omega
   by_cases h2:i<20
   ·have h2I:(i:Int)<20:=by omega
    have e0:=Qq hlt;have e1:=A0t e0;have hIn:=C6X d[i];have t1:d.take (i+1)=d.take i++[d[i]]:=Xy hlt;have hm:d[i]∈d.take 20:=List.mem_take_iff_getElem.2 ⟨i,by omega,rfl⟩;have hb:C4x d[i]=((decide (1000<d[i])||decide (d[i]< -1000))&&inD d[i]):=rfl;generalize d[i]=x at*;have fin:C4x x=true->((d.take 20).all (fun k=> !C4x k)&&decide (d.length≤20))=false:=fun q=>by
     rw [List.all_eq_false.2 ⟨x,hm,by simp [q]⟩,VW]
    have nxt:C4x x=false->(d.take (i+1)).all (fun k=> !C4x k)=true:=fun q=>by
     rw [t1,List.all_append,hp,List.all_cons,q]; rfl
    cases hin:inD x with
    | true=>
     rw [hin] at hIn hb;by_cases c1:x>1000
     ·rw [decide_eq_true c1,Bool.true_or,VQ] at hb;rw [fin hb];refine zR (zc @hltI (zc @h2I (zc @e1 (zc @c1 (zc @A0e Qv5))))) (zc hIn Qv5) Qv5 ?_;simp [A0s,A0r,Blk.cells,ty,Tryz.results19,A0o,A0p,toT,A0d,A0b,A0c,A0a,A0q]
     ·by_cases c2:x< -1000
      ·rw [decide_eq_true c2,Bool.or_true,VQ] at hb;rw [fin hb];refine zR (zc @hltI (zc @h2I (zc @e1 (zc @c1 (zc @c2 (zc @A0e Qv5)))))) (zc hIn Qv5) Qv5 ?_;simp [A0s,A0r,Blk.cells,ty,Tryz.results19,A0o,A0p,toT,A0d,A0b,A0c,A0a,A0q]
      ·have hb2:C4x x=false:=by rw [hb,decide_eq_false (by omega),decide_eq_false c2]; rfl
       refine zR (zc @hltI (zc @h2I (zc @e1 (zc @c1 (zc @c2 (zc @A0e Qv5)))))) (zc hIn Qv5) Qv5 ?_;refine ⟨i+1,Weak.headN 0 36 [0,3] zW,?_,?_⟩
       ·exact ⟨hlt,h2,nxt hb2⟩
       ·omega
    | false=>
     rw [hin] at hIn hb;rw [Bool.and_false] at hb;by_cases c1:x>1000
     ·
      refine zR (zc @hltI (zc @h2I (zc @e1 (zc @c1 (zc @A0e Qv5))))) (zc hIn Qv5) Qv5 ?_;refine ⟨i+1,Weak.headN 0 36 [0,3] zW,?_,?_⟩
      ·exact ⟨hlt,h2,nxt hb⟩
      ·omega
     ·by_cases c2:x< -1000
      ·
       refine zR (zc @hltI (zc @h2I (zc @e1 (zc @c1 (zc @c2 (zc @A0e Qv5)))))) (zc hIn Qv5) Qv5 ?_;refine ⟨i+1,Weak.headN 0 36 [0,3] zW,?_,?_⟩
       ·exact ⟨hlt,h2,nxt hb⟩
       ·omega
      ·
       refine zR (zc @hltI (zc @h2I (zc @e1 (zc @c1 (zc @c2 (zc @A0e Qv5)))))) (zc hIn Qv5) Qv5 ?_;refine ⟨i+1,Weak.headN 0 36 [0,3] zW,?_,?_⟩
       ·exact ⟨hlt,h2,nxt hb⟩
       ·omega
   ·have hnl: ¬(i:Int)<20:=by omega
    have ei:i=20:=by omega
    rw [ei] at hp hltI hnl;rw [ei];have hl: ¬d.length≤20:=by omega
    have hlI: ¬(d.length:Int)≤20:=by omega
    rw [decide_eq_false hl,Bool.and_false];refine zR (zc @hltI (zc @hnl (zc @hlI (zc @A0e Qv5)))) Qv5 Qv5 ?_;simp [A0s,A0r,Blk.cells,ty,Tryz.results19,A0o,A0p,toT,A0d,A0b,A0c,A0a,A0q]
  ·have hnl: ¬(i:Int)<(d.length:Int):=by omega
   have hl:d.length≤20:=by omega
   have hlI:(d.length:Int)≤20:=by omega
   have e:d.take 20=d.take i:=by rw [Zw (by omega),Zw (by omega)]
   rw [e,hp,decide_eq_true hl,VQ];refine zR (zc @hnl (zc @hlI (zc @A0e Qv5))) Qv5 Qv5 ?_;simp [A0s,A0r,Blk.cells,ty,Tryz.results19,A0o,A0p,toT,A0d,A0b,A0c,A0a,A0q]
end Go.Proofs.YtdbdfkohpjefjaaGreat
