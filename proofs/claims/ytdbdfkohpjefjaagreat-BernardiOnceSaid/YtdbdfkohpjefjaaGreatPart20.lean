/- A part of the proof. -/
import Derived.Test.YtdbdfkohpjefjaaGreatPart14
import Derived.Test.YtdbdfkohpjefjaaGreatPart12
import Derived.Test.YtdbdfkohpjefjaaGreatPart15
set_option linter.all false
set_option maxHeartbeats 4000000
set_option maxRecDepth 100000
namespace Go.Proofs.YtdbdfkohpjefjaaGreat
open Go.Sp
def B2j (es:List E) (v:Int) (n:Nat):Int:=sumR (fun u=>if (u:Int)=v then 0 else A1G es (min (u:Int) v) (max (u:Int) v)) n
theorem A62 {g:G} (hc:checkG g=0) (a b:Int):0≤A1G g.es a b∧A1G g.es a b≤50:=by
 have hmul:=(A0h.1 hc).2.1;exact ⟨B3t fun e he=>by have:=hmul e he; unfold okE at this; omega,B3s (fun e he=>by have:=hmul e he; unfold okE at this; omega) (by omega)⟩
theorem C13 {g:G} {n:Nat} (hc:checkG g=0) (hn:g.n=n) {v:Int} (hv:0≤v∧v<n):B2j g.es v n=B8e v g.es:=by
 have h1:=(B83 hc hn).2.2 v;have h2:sumR (fun u=>A1G g.es (min v u) (max v u)) n=B2j g.es v n+sumR (fun u=>if (u:Int)=v then A1G g.es v v else 0) n:=by
  unfold B2j;rw [<-A1A];refine A0w fun i _=> ?_;by_cases e:(i:Int)=v
  ·rw [if_pos e,if_pos e,e,Int.min_self,Int.max_self]; omega
  ·rw [if_neg e,if_neg e,Int.min_comm,Int.max_comm]; omega
 rw [A4d hv.1 hv.2] at h2;omega
theorem B3I (g:G) (n:Nat) (hc:checkG g=0) (hn:g.n=n) (hl:g.es.length<2^30) (v:Int):ACall Tryz.prog 183 [tG g,A0k v] (A0k (B2j g.es v n)):=by
 have hn12:=(A0h.1 hc).1;have hVb: ∀u,u≤n->0≤B2j g.es v u∧B2j g.es v u≤600:=fun u hu=>by
  have:=B0e (f:=fun u=>if (u:Int)=v then 0 else A1G g.es (min (u:Int) v) (max (u:Int) v)) (n:=u) (k:=50) (fun i _=>by have:=A62 hc (min (i:Int) v) (max (i:Int) v); (try simp only); split<;>omega);unfold B2j; omega
 refine ACall.of_body Tryz.func183 rfl (by kernel_rfl) ?_;simp only [entry,Tryz.ntmps183,tG,A0k];refine zU ?_;refine zR Qw9 Qw9 Qw9 ?_;refine AWp.loopS (α:=Nat) 23 (fun u=>[(1,.c (.int .i64 v)),(2,.c (.ptr 0 0)),(5,.c (.int .i64 (B2j g.es v u))),(6,.c (.int .i64 (u:Int)))]) (fun u=>[.box [.int .i64 g.n,.slice (A0f g.es) .none]]) (fun u=>u≤n) (fun u=>n-u) (0) (hk:=Weak.headL 1 23 [1,2,5,6] zW) (h0:=?_) (round:=fun u hI=>?_)
 ·exact Xj _
 ·have hun:u≤n:=hI;clear hI;by_cases hlt:u<n
  ·have hltI:(u:Int)<g.n:=by omega
   have hb:=A5N g u v (by omega);have hcb:=A62 hc (min (u:Int) v) (max (u:Int) v);have hV:=hVb u hun;have hV1:B2j g.es v (u+1)=B2j g.es v u+(if (u:Int)=v then 0 else A1G g.es (min (u:Int) v) (max (u:Int) v)):=rfl;generalize B2j g.es v u=S at*;generalize A1G g.es (min (u:Int) v) (max (u:Int) v)=k at*
   repeat' (first|((first|(refine zT ?_;intro K' hK')|(refine zG ?_ ?_<;>(try refine zH ?_)<;>intro hguard<;>(try exact zX)<;>try intro K' hK'))<;>((try simp+contextual only [go_sem,hltI]);(repeat' first|(with_reducible refine hK' _ _ ?_;clear hK' K')|(with_reducible refine zK hb ?_;try simp+contextual only [go_sem,hltI])|exact zY|with_reducible refine Qw8 ?_ ?_|(with_reducible intro hpath;try exact zP)|(refine hK' _ _ ?_;clear hK' K')|fail);try refine zS ?_))|(refine zE ?_;refine hK _ _ ?_;clear hK K)|(refine zN ?_;try refine zS ?_)|refine zA ?_|(refine zB ?_;intro K hK)|(refine zC ?_ ?_<;>(try refine zH ?_)<;>intro hcond<;>try exact zX)|fail)
   ·rw [if_neg (by assumption)] at hV1;refine ⟨u+1,Weak.headF 1 23 [1,2,5,6] (zc @hV1 Qw9) zW,?_,?_⟩
    ·exact hlt
    ·omega
   ·rw [if_pos (by assumption),Int.add_zero] at hV1;refine ⟨u+1,Weak.headF 1 23 [1,2,5,6] (zc @hV1 Qw9) zW,?_,?_⟩
    ·exact hlt
    ·omega
  ·have eu:u=n:=by omega
   subst eu;have hnl: ¬((u:Int)<g.n):=by omega
   refine zR (zc @hnl Qw9) Qw9 Qw9 ?_;simp [A0y,A0x,Blk.cells,ty,Tryz.results183,A0s,A0t,toT,A0d,A0b,A0c,A0a,A0k]
theorem B60 (g:G) (n:Nat) (hc:checkG g=0) (hn:g.n=n) (hl:g.es.length<2^30) (v:Int):ACall Tryz.prog 156 [tG g,A0k v] (A0k (B2j g.es v n+2*A1G g.es v v)):=by
 have hn12:=(A0h.1 hc).1;have hVb:0≤B2j g.es v n∧B2j g.es v n≤600:=by
  have:=B0e (f:=fun u=>if (u:Int)=v then 0 else A1G g.es (min (u:Int) v) (max (u:Int) v)) (n:=n) (k:=50) (fun i _=>by have:=A62 hc (min (i:Int) v) (max (i:Int) v); (try simp only); split<;>omega);unfold B2j; omega
 have hb:=A5N g v v (by omega);rw [Int.min_self,Int.max_self] at hb;have hcb:=A62 hc v v;have hv:=B3I g n hc hn hl v;refine ACall.of_body Tryz.func156 rfl (by kernel_rfl) ?_;simp only [entry,Tryz.ntmps156,tG,A0k];refine zU ?_;generalize B2j g.es v n=S at*;generalize A1G g.es v v=k at*;refine zR Qw9 (zc hv (zc hb Qw9)) Qw9 ?_;simp [A0y,A0x,Blk.cells,ty,Tryz.results156,A0s,A0t,toT,A0d,A0b,A0c,A0a,A0k]
end Go.Proofs.YtdbdfkohpjefjaaGreat
