/- A part of the proof. -/
import Derived.Test.YtdbdfkohpjefjaaGreatPart09
set_option linter.all false
set_option maxHeartbeats 4000000
set_option maxRecDepth 100000
namespace Go.Proofs.YtdbdfkohpjefjaaGreat
open Go.Sp
theorem B8t (h:Nat):Int.tdiv (h:Int) 2=((h / 2:Nat):Int):=rfl
theorem B6h (h:Nat):Int.tmod (h:Int) 2=((h%2:Nat):Int):=rfl
theorem C5c (L:List (Int×Int)) (h:Nat) (hh:h<2*L.length) (hl:L.length<2^30):ACall Tryz.prog 169 [A0C L,A0k h] (A0k (atL L h)):=by
 have e0:L[h / 2]? =some L[h / 2]:=Qq (by omega);have e1:=A20 e0;have ea:atL L h=if h%2=0 then L[h / 2].1 else L[h / 2].2:=by unfold atL; rw [Qz,e0]; rfl
 have hlt:((h / 2:Nat):Int)<L.length:=by omega
 rw [ea];generalize L[h / 2]=p at*;obtain ⟨a,b⟩:=p;refine ACall.of_body Tryz.func169 rfl (by kernel_rfl) ?_;simp only [entry,Tryz.ntmps169,A0C,A0k];refine zU ?_;have hm:h%2=0∨h%2=1:=by omega
 rcases hm with hm | hm
 ·
  refine zR (zc @B8t (zc @B6h (zc @hm (zc @hlt (zc @A02 (zc @e1 Qw9)))))) Qw9 Qw9 ?_;simp [A0y,A0x,Blk.cells,ty,Tryz.results169,A0s,A0t,toT,A0d,A0b,A0c,A0a,A0k,hm]
 ·
  refine zR (zc @B8t (zc @B6h (zc @hm (zc @hlt (zc @A02 (zc @e1 Qw9)))))) Qw9 Qw9 ?_;simp [A0y,A0x,Blk.cells,ty,Tryz.results169,A0s,A0t,toT,A0d,A0b,A0c,A0a,A0k,hm]
@[simp] theorem C4A (L:List (Int×Int)) (n k:Nat):(chJ (A1h L n k)).take n=chJ (A1h L n k):=A6u (by rw [A0H]; exact QQ _)
theorem B2b (L:List (Int×Int)) (n:Nat) (hn:n<2^20) (hl:L.length<2^20) (hr: ∀h,h<2*L.length->0≤atL L h∧atL L h<n):
  ACall Tryz.prog 132 [A0k n,A0C L] (A0R (A1h L n (2*L.length))):=by
 refine ACall.of_body Tryz.func132 rfl (by kernel_rfl) ?_;simp only [entry,Tryz.ntmps132,A0C,A0k];refine zU ?_
 repeat' (first|((first|(refine zT ?_;intro K' hK')|(refine zG ?_ ?_<;>(try refine zH ?_)<;>intro hguard<;>(try exact zX)<;>try intro K' hK'))<;>((try simp+contextual only [go_sem,B8j,Int.toNat_natCast,Yj,A02,Yx]);(repeat' first|(with_reducible refine hK' _ _ ?_;clear hK' K')|exact zY|with_reducible refine Qw8 ?_ ?_|(with_reducible intro hpath;try exact zP)|(refine hK' _ _ ?_;clear hK' K')|fail);try refine zS ?_))|(refine zE ?_;refine hK _ _ ?_;clear hK K)|(refine zN ?_;try refine zS ?_)|refine zA ?_|(refine zB ?_;intro K hK)|(refine zC ?_ ?_<;>(try refine zH ?_)<;>intro hcond<;>try exact zX)|fail)
 refine AWp.weak (Weak.openBs 0 n (pre:=[]) rfl (Xj _)) ?_;simp only [List.length_cons,List.length_nil,List.set_cons_zero,List.nil_append,List.cons_append,Xy,C3p,C3q,B1W L n];refine AWp.loopS (α:=Nat) 31 (fun k=>[(1,.c (.slice (A1c L) .none)),(5,.c (.ref 0 1 0 n n)),(11,.c (.int .i64 (2*(L.length:Int)))),(12,.c (.int .i64 (k:Int)))]) (fun k=>.box (chI 1 (A1h L n k))::chJ (A1h L n k)) (fun k=>k≤2*L.length) (fun k=>2*L.length-k) (0) (hk:=Weak.headL (n+1) 31 [1,5,11,12] (by (repeat' (first | exact A0n _ | exact A0v _ | exact A0i _ | refine Qw8 ?_ ?_ | refine A0j ?_ ?_ | refine A0l ?_ ?_ | refine A0g ?_ ?_ | exact Qw7 | exact A9W (by rw [A0H]; omega) | exact A2j | (show _<_; omega) | exact A0q (fun _=>Qw7) | (intro c hc; cases hc; done) | (intro c hc; simp only [Qw,Qk,or_false] at hc; subst hc; first | exact Qw7 | exact A9W (by rw [A0H]; omega) | exact A2j | (show _<_; omega)) | (intro c hc; simp only [Qw,Qk,or_false] at hc; rcases hc with rfl | rfl<;>first | exact Qw7 | exact A9W (by rw [A0H]; omega) | exact A2j | (show _<_; omega)))))) (h0:=?_) (round:=fun k hI=>?_)
 ·exact Xj _
 ·have hk:k≤2*L.length:=hI;clear hI;by_cases hlt:k<2*L.length
  ·have hltI:(k:Int)<2*(L.length:Int):=by omega
   have hat:=hr k hlt;have hA:=C5c L k hlt (by omega);obtain ⟨v,hv⟩: ∃v:Nat,atL L k=v:=⟨(atL L k).toNat,by omega⟩;have hvn:v<n:=by omega
   have hvI:(v:Int)<n:=by omega
   have hnx:=B1X hvn hv;have hg:=A3f (L:=L) (k:=k) hvn;have hol:=A7O L (v:Int) k;have hll:=A0H L n k;rw [hv] at hA;generalize ownL L (v:Int) k=o at*;have g1:=B8f (b:=1) hg;have g2:=B4H (b:=1) hg;have g3:=B8h hg;have g4:=B8g 1 v (A1h L n k) (o++[(k:Int)]);have g5:=B8i v (A1h L n k) (o++[(k:Int)]) (n:=o.length+1) (by simp);rw [<-hnx] at g4 g5;refine zRc (zc @hltI (zc @hvI (zc @A02 (zc @g1 (zc @g2 (zc @g3 (zc @g4 (zc @g5 (zc @A2q (zc @A8C (zc @hll (zc @A0e (zc @A2p Qw9))))))))))))) (zc hA Qw9) @A1p ?_;refine ⟨k+1,Weak.headN (n+1) 31 [1,5,11,12] (by (repeat' (first | exact A0n _ | exact A0v _ | exact A0i _ | refine Qw8 ?_ ?_ | refine A0j ?_ ?_ | refine A0l ?_ ?_ | refine A0g ?_ ?_ | exact Qw7 | exact A9W (by rw [A0H]; omega) | exact A2j | (show _<_; omega) | exact A0q (fun _=>Qw7) | (intro c hc; cases hc; done) | (intro c hc; simp only [Qw,Qk,or_false] at hc; subst hc; first | exact Qw7 | exact A9W (by rw [A0H]; omega) | exact A2j | (show _<_; omega)) | (intro c hc; simp only [Qw,Qk,or_false] at hc; rcases hc with rfl | rfl<;>first | exact Qw7 | exact A9W (by rw [A0H]; omega) | exact A2j | (show _<_; omega))))),?_,?_⟩
   ·exact hlt
   ·omega
  ·have ek:k=2*L.length:=by omega
   subst ek;have hnl: ¬(((2*L.length:Nat):Int)<2*(L.length:Int)):=by omega
   refine zJ (stop 7) (zc @hnl Qw9) Qw9 Qw9 Qw9 ?_;refine AWp.boxData 5 0 1 ((A1h L n (2*L.length)).map A0p) rfl rfl (by rw [Zq,A0H]) (QQ _) ?_;rw [C28];simp only [List.set_cons_succ,List.set_cons_zero];refine zR Qw9 Qw9 Qw9 ?_;simp [A0y,A0x,Blk.cells,ty,Tryz.results132,A0s,A0t,toT,A0d,A0b,A0c,A0a,A0R]
end Go.Proofs.YtdbdfkohpjefjaaGreat
