/- A part of the proof. -/
import Derived.Test.YtdbdfkohpjefjaaGreatPart07
set_option linter.all false
set_option maxHeartbeats 4000000
set_option maxRecDepth 100000
namespace Go.Proofs.YtdbdfkohpjefjaaGreat
open Go.Sp
theorem C3M (h:Nat):Int.tdiv (h:Int) 2=((h / 2:Nat):Int):=rfl
theorem C3N (h:Nat):Int.tmod (h:Int) 2=((h%2:Nat):Int):=rfl
theorem C3O (L:List (Int×Int)) (h:Nat) (hh:h<2*L.length) (hl:L.length<2^30):ACall Tryz.prog 169 [A0B L,A0m h] (A0m (atL L h)):=by
 have e0:L[h / 2]? =some L[h / 2]:=Qq (by omega);have e1:=A2P e0;have ea:atL L h=if h%2=0 then L[h / 2].1 else L[h / 2].2:=by unfold atL; rw [Qz,e0]; rfl
 have hlt:((h / 2:Nat):Int)<L.length:=by omega
 rw [ea];generalize L[h / 2]=p at*;obtain ⟨a,b⟩:=p;refine ACall.of_body Tryz.func169 rfl (by kernel_rfl) ?_;simp only [entry,Tryz.ntmps169,A0B,A0m];refine zU ?_;have hm:h%2=0∨h%2=1:=by omega
 rcases hm with hm | hm
 ·
  refine zR (zc @C3M (zc @C3N (zc @hm (zc @hlt (zc @A05 (zc @e1 Qw8)))))) Qw8 Qw8 ?_;simp [A0z,A0y,Blk.cells,ty,Tryz.results169,A0t,A0u,toT,A0d,A0b,A0c,A0a,A0m,hm]
 ·
  refine zR (zc @C3M (zc @C3N (zc @hm (zc @hlt (zc @A05 (zc @e1 Qw8)))))) Qw8 Qw8 ?_;simp [A0z,A0y,Blk.cells,ty,Tryz.results169,A0t,A0u,toT,A0d,A0b,A0c,A0a,A0m,hm]
@[simp] theorem C3w (L:List (Int×Int)) (n k:Nat):(chJ (A1g L n k)).take n=chJ (A1g L n k):=A5Z (by rw [A0G]; exact QQ _)
theorem B1H (L:List (Int×Int)) (n:Nat) (hn:n<2^20) (hl:L.length<2^20) (hr: ∀h,h<2*L.length->0≤atL L h∧atL L h<n):
  ACall Tryz.prog 132 [A0m n,A0B L] (A0N (A1g L n (2*L.length))):=by
 refine ACall.of_body Tryz.func132 rfl (by kernel_rfl) ?_;simp only [entry,Tryz.ntmps132,A0B,A0m];refine zU ?_
 repeat' (first|((first|(refine zT ?_;intro K' hK')|(refine zG ?_ ?_<;>(try refine zH ?_)<;>intro hguard<;>(try exact zX)<;>try intro K' hK'))<;>((try simp+contextual only [go_sem,B7t,Int.toNat_natCast,Yz,A05,Yq]);(repeat' first|(with_reducible refine hK' _ _ ?_;clear hK' K')|exact zY|with_reducible refine Qw7 ?_ ?_|(with_reducible intro hpath;try exact zP)|(refine hK' _ _ ?_;clear hK' K')|fail);try refine zS ?_))|(refine zE ?_;refine hK _ _ ?_;clear hK K)|(refine zN ?_;try refine zS ?_)|refine zA ?_|(refine zB ?_;intro K hK)|(refine zC ?_ ?_<;>(try refine zH ?_)<;>intro hcond<;>try exact zX)|fail)
 refine AWp.weak (Weak.openBs 0 n (pre:=[]) rfl (Xj _)) ?_;simp only [List.length_cons,List.length_nil,List.set_cons_zero,List.nil_append,List.cons_append,Xk,C2j,C2k,B1C L n];refine AWp.loopS (α:=Nat) 31 (fun k=>[(1,.c (.slice (A1b L) .none)),(5,.c (.ref 0 1 0 n n)),(11,.c (.int .i64 (2*(L.length:Int)))),(12,.c (.int .i64 (k:Int)))]) (fun k=>.box (chI 1 (A1g L n k))::chJ (A1g L n k)) (fun k=>k≤2*L.length) (fun k=>2*L.length-k) (0) (hk:=Weak.headL (n+1) 31 [1,5,11,12] (by (repeat' (first | exact A0l _ | exact A0r _ | exact A0h _ | refine Qw7 ?_ ?_ | refine A0i ?_ ?_ | refine A0k ?_ ?_ | refine A0g ?_ ?_ | exact Qw6 | exact A96 (by rw [A0G]; omega) | exact A2b | (show _<_; omega) | exact A0p (fun _=>Qw6) | (intro c hc; cases hc; done) | (intro c hc; simp only [Qw,Qv,or_false] at hc; subst hc; first | exact Qw6 | exact A96 (by rw [A0G]; omega) | exact A2b | (show _<_; omega)) | (intro c hc; simp only [Qw,Qv,or_false] at hc; rcases hc with rfl | rfl<;>first | exact Qw6 | exact A96 (by rw [A0G]; omega) | exact A2b | (show _<_; omega)))))) (h0:=?_) (round:=fun k hI=>?_)
 ·exact Xj _
 ·have hk:k≤2*L.length:=hI;clear hI;by_cases hlt:k<2*L.length
  ·have hltI:(k:Int)<2*(L.length:Int):=by omega
   have hat:=hr k hlt;have hA:=C3O L k hlt (by omega);obtain ⟨v,hv⟩: ∃v:Nat,atL L k=v:=⟨(atL L k).toNat,by omega⟩;have hvn:v<n:=by omega
   have hvI:(v:Int)<n:=by omega
   have hnx:=B1D hvn hv;have hg:=A2S (L:=L) (k:=k) hvn;have hol:=B00 L (v:Int) k;have hll:=A0G L n k;rw [hv] at hA;generalize ownL L (v:Int) k=o at*;have g1:=B7p (b:=1) hg;have g2:=B4c (b:=1) hg;have g3:=B7r hg;have g4:=B7q 1 v (A1g L n k) (o++[(k:Int)]);have g5:=B7s v (A1g L n k) (o++[(k:Int)]) (n:=o.length+1) (by simp);rw [<-hnx] at g4 g5;refine zRc (zc @hltI (zc @hvI (zc @A05 (zc @g1 (zc @g2 (zc @g3 (zc @g4 (zc @g5 (zc @A2k (zc @A8q (zc @hll (zc @A0e (zc @A1O Qw8))))))))))))) (zc hA Qw8) @A1s ?_;refine ⟨k+1,Weak.headN (n+1) 31 [1,5,11,12] (by (repeat' (first | exact A0l _ | exact A0r _ | exact A0h _ | refine Qw7 ?_ ?_ | refine A0i ?_ ?_ | refine A0k ?_ ?_ | refine A0g ?_ ?_ | exact Qw6 | exact A96 (by rw [A0G]; omega) | exact A2b | (show _<_; omega) | exact A0p (fun _=>Qw6) | (intro c hc; cases hc; done) | (intro c hc; simp only [Qw,Qv,or_false] at hc; subst hc; first | exact Qw6 | exact A96 (by rw [A0G]; omega) | exact A2b | (show _<_; omega)) | (intro c hc; simp only [Qw,Qv,or_false] at hc; rcases hc with rfl | rfl<;>first | exact Qw6 | exact A96 (by rw [A0G]; omega) | exact A2b | (show _<_; omega))))),?_,?_⟩
   ·exact hlt
   ·omega
  ·have ek:k=2*L.length:=by omega
   subst ek;have hnl: ¬(((2*L.length:Nat):Int)<2*(L.length:Int)):=by omega
   refine zJ (stop 7) (zc @hnl Qw8) Qw8 Qw8 Qw8 ?_;refine AWp.boxData 5 0 1 ((A1g L n (2*L.length)).map A0o) rfl rfl (by rw [XW,A0G]) (QQ _) ?_;rw [C14];simp only [List.set_cons_succ,List.set_cons_zero];refine zR Qw8 Qw8 Qw8 ?_;simp [A0z,A0y,Blk.cells,ty,Tryz.results132,A0t,A0u,toT,A0d,A0b,A0c,A0a,A0N]
end Go.Proofs.YtdbdfkohpjefjaaGreat
