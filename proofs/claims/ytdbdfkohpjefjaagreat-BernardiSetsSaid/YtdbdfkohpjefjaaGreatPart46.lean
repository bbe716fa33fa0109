/- A part of the proof. -/
import Derived.Test.YtdbdfkohpjefjaaGreatPart44
set_option linter.all false
set_option maxHeartbeats 4000000
set_option maxRecDepth 100000
namespace Go.Proofs.YtdbdfkohpjefjaaGreat
open Go.Sp
theorem B0Q {d:List Int} {K:Int} (h:bndL K d): ∀i:Nat,-(K*i)≤sumR (fun v=>d.getD v 0) i∧sumR (fun v=>d.getD v 0) i≤K*i
 | 0=>by simp [sumR]
 | i+1=>by
  have h1:=B0Q h i;have h2:=h i;have e:K*((i+1:Nat):Int)=K*i+K:=by rw [Int.natCast_add,Int.mul_add]; simp
  simp only [sumR];omega
def A7t (d:List Int) (n:Nat):Int:=sumR (fun v=>d.getD v 0) n
theorem B6k (d:List Int) (n:Nat) (h1:1≤n) (h12:n≤12) (hd:d.length=n) (hb:bndL 1048576 d):ACall Tryz.prog 71 [A0n d] (.tup [A0m (A7t d n),A0m 0]):=by
 have hO:=C1F [d] n h1 h12 (by show 1<2^20; decide) (fun x hx=>by rw [XJ] at hx; subst hx; exact ⟨hd,hb⟩);have e0:A7t d 0=0:=rfl;simp only [A0x,Xy,Zx] at hO;refine ACall.of_body Tryz.func71 rfl (by kernel_rfl) ?_;simp only [entry,Tryz.ntmps71,A0n];refine zU ?_
 repeat' ((fail_if_success (with_reducible refine AWp.atSeq 6 ?_));(fail_if_success (with_reducible refine AWp.atLast 6 ?_));first|((first|(refine zT ?_;intro K' hK')|(refine zG ?_ ?_<;>(try refine zH ?_)<;>intro hguard<;>(try exact zX)<;>try intro K' hK'))<;>((try simp+contextual only [go_sem,A0e,hd,List.length_cons,List.length_nil,chunks,List.range,List.range.loop]);(repeat' first|(with_reducible refine hK' _ _ ?_;clear hK' K')|(with_reducible refine zK hO ?_;try simp+contextual only [go_sem,A0e,hd,List.length_cons,List.length_nil,chunks,List.range,List.range.loop])|exact zY|with_reducible refine Qw7 ?_ ?_|(with_reducible intro hpath;try exact zP)|(refine hK' _ _ ?_;clear hK' K')|fail);try refine zS ?_))|(refine zE ?_;refine hK _ _ ?_;clear hK K)|(refine zN ?_;try refine zS ?_)|refine zA ?_|(refine zB ?_;intro K hK)|(refine zC ?_ ?_<;>(try refine zH ?_)<;>intro hcond<;>try exact zX)|fail)
 refine AWp.loopS (α:=Nat) 25 (fun i=>[(5,.c (.int .i64 (A7t d i))),(14,.c (.slice (A0o d) .none)),(15,.c (.int .i64 (n:Int))),(16,.c (.int .i64 (i:Int)))]) (fun i=>[]) (fun i=>i≤n) (fun i=>n-i) (0) (hk:=Weak.headL 0 25 [5,14,15,16] (zV3 @A1d @A0E @A0F)) (h0:=?_) (round:=fun i hI=>?_)
 ·exact Xj _
 ·have hi:i≤n:=hI;clear hI;by_cases hil:i<n
  ·have hiI:(i:Int)<(n:Int):=by omega
   have hg:=A0w (A1j (d:=d) (i:=i) (by omega));have hx:=hb i;have hs: -(1048576*i)≤A7t d i∧A7t d i≤1048576*i:=B0Q hb i;have hnx:A7t d (i+1)=A7t d i+d.getD i 0:=rfl;generalize hN1:A7t d (i+1)=N1 at*;generalize A7t d i=N0 at*;generalize d.getD i 0=x at*;refine zR (zc @hiI (zc @hg (zc @A0e (zc @hd (zc @Xk Qw8))))) Qw8 Qw8 ?_;refine ⟨i+1,Weak.headF 0 25 [5,14,15,16] (zc @hN1 (zc @hnx Qw8)) (zV3 @A1d @A0E @A0F),?_,?_⟩
   ·exact hil
   ·omega
  ·have hnl: ¬(i:Int)<(n:Int):=by omega
   have ei:i=n:=by omega
   rw [ei];rw [ei] at hnl;refine zR (zc @hnl Qw8) Qw8 Qw8 ?_;simp [A0z,A0y,Blk.cells,ty,Tryz.results71,A0t,A0u,toT,A0d,A0b,A0c,A0a,A0m]
def B0Y (a b:List Int) (n i:Nat):List Int:=(List.range n).map fun v=>if v<i then a.getD v 0+b.getD v 0 else 0
theorem A7B (a b:List Int) (n i:Nat):(B0Y a b n i).length=n:=by simp [B0Y]
theorem B4K (a b:List Int) (n i v:Nat):(B0Y a b n i)[v]? =if v<n then some (if v<i then a.getD v 0+b.getD v 0 else 0) else none:=by
 unfold B0Y;rw [QY];by_cases h:v<n
 ·rw [if_pos h,Yw h]; rfl
 ·rw [if_neg h,QV (by simpa using h)]; rfl
theorem C1l (a b:List Int) {n i:Nat} (hi:i<n):(B0Y a b n i).set i (a.getD i 0+b.getD i 0)=B0Y a b n (i+1):=by
 apply XY;intro j;rw [Qw1,A7B,B4K,B4K];by_cases e:i=j
 ·subst e;rw [if_pos rfl,if_pos hi,if_pos hi,if_pos (by omega)]
 ·rw [if_neg e];by_cases h:j<n
  ·rw [if_pos h,if_pos h];by_cases h2:j<i
   ·rw [if_pos h2,if_pos (by omega)]
   ·rw [if_neg h2,if_neg (by omega)]
  ·rw [if_neg h,if_neg h]
theorem B9u (a b:List Int) (n:Nat):B0Y a b n 0=List.replicate n 0:=by
 apply Qz5
 ·simp [B0Y]
 ·intro i h1 h2; simp [B0Y]
theorem C3o (x y:Int) (h: -(2^40)≤x∧x≤2^40) (h': -(2^40)≤y∧y≤2^40):ACall Tryz.prog 114 [A0m x,A0m y] (A0m (x+y)):=by
 refine ACall.of_body Tryz.func114 rfl (by kernel_rfl) ?_;simp only [entry,Tryz.ntmps114,A0m];refine zU ?_;refine zR Qw8 Qw8 Qw8 ?_;simp [A0z,A0y,Blk.cells,ty,Tryz.results114,A0t,A0u,toT,A0d,A0b,A0c,A0a,A0m]
theorem B9v (a b:List Int) (n:Nat) (h1:1≤n) (h12:n≤12) (ha:a.length=n) (hb:b.length=n) (ha1:bndL 1048576 a) (hb1:bndL 1048576 b) (hs: ∀v,v<n-> -1048576≤a.getD v 0+b.getD v 0∧a.getD v 0+b.getD v 0≤1048576):
  ACallH Tryz.prog 113 [] [.c (.slice (A0o a) .none),.c (.slice (A0o b) .none),.c (.fn 114 [])] [.box (iC (B0Y a b n n))] (.tup [.c (.ref 0 1 0 n n),.c (.int .i64 0)]):=by
 have hO:=C1F [a,b] n h1 h12 (by show 2<2^20; decide) (fun x hx=>by
  simp only [Qw,Qv,or_false] at hx;rcases hx with rfl | rfl
  ·exact ⟨ha,ha1⟩
  ·exact ⟨hb,hb1⟩)
 simp only [A0x,Xy,Zx] at hO;have hnI:(0:Int)≤(n:Int):=by omega
 refine ACallH.of_body Tryz.func113 rfl (by kernel_rfl) ?_;simp only [entry,Tryz.ntmps113,List.length_cons,List.length_nil,Nat.reduceAdd,Nat.reduceSub,List.replicate_succ,List.replicate_zero,List.cons_append,List.nil_append]
 repeat' ((fail_if_success (with_reducible refine AWp.atSeq 6 ?_));(fail_if_success (with_reducible refine AWp.atLast 6 ?_));first|((first|(refine zT ?_;intro K' hK')|(refine zG ?_ ?_<;>(try refine zH ?_)<;>intro hguard<;>(try exact zX)<;>try intro K' hK'))<;>((try simp+contextual only [go_sem,A0e,ha,A1I,A11,Yq,Int.toNat_natCast,Yz,Xk,List.length_cons,List.length_nil,chunks,List.range,List.range.loop]);(repeat' first|(with_reducible refine hK' _ _ ?_;clear hK' K')|(with_reducible refine zK hO ?_;try simp+contextual only [go_sem,A0e,ha,A1I,A11,Yq,Int.toNat_natCast,Yz,Xk,List.length_cons,List.length_nil,chunks,List.range,List.range.loop])|exact zY|with_reducible refine Qw7 ?_ ?_|(with_reducible intro hpath;try exact zP)|(refine hK' _ _ ?_;clear hK' K')|fail);try refine zS ?_))|(refine zE ?_;refine hK _ _ ?_;clear hK K)|(refine zN ?_;try refine zS ?_)|refine zA ?_|(refine zB ?_;intro K hK)|(refine zC ?_ ?_<;>(try refine zH ?_)<;>intro hcond<;>try exact zX)|fail)
 rw [<-B9u a b n];refine AWp.loopS (α:=Nat) 47 (fun i=>[(0,.c (.slice (A0o a) .none)),(1,.c (.slice (A0o b) .none)),(2,.c (.fn 114 [])),(9,.c (.ref 0 1 0 n n)),(22,.c (.int .i64 (n:Int))),(23,.c (.int .i64 (i:Int)))]) (fun i=>[.box (iC (B0Y a b n i))]) (fun i=>i≤n) (fun i=>n-i) (0) (hk:=Weak.headL 1 47 [0,1,2,9,22,23] (zV3 @A1d @A0E @A0F)) (h0:=?_) (round:=fun i hI=>?_)
 ·exact Xj _
 ·have hi:i≤n:=hI;clear hI;by_cases hil:i<n
  ·have hiI:(i:Int)<(n:Int):=by omega
   have ga:=A0w (A1j (d:=a) (i:=i) (by omega));have gb:=A0w (A1j (d:=b) (i:=i) (by omega));have hF:=C3o (a.getD i 0) (b.getD i 0) (by have:=ha1 i; omega) (by have:=hb1 i; omega);have hw:=A9Y (a.getD i 0+b.getD i 0) (hs i hil);have hns:=C1l a b hil;have hnl:=A7B a b n i;have hst:=A94 (B0Y a b n i) i (a.getD i 0+b.getD i 0);rw [hns] at hst;have hl1:=A7B a b n (i+1);have hg2:(iC (B0Y a b n (i+1)))[i]? =some (.int .i64 (a.getD i 0+b.getD i 0)):=by rw [<-hst]; exact QW (by rw [A11,hnl]; exact hil)
   clear hns hs ha1 hb1 hO;generalize hn1:B0Y a b n (i+1)=N1 at*;generalize B0Y a b n i=N0 at*;generalize a.getD i 0=x at*;generalize b.getD i 0=y at*;refine zR (zc @hiI (zc @ga (zc @gb (zc @hst (zc @hg2 (zc @hnl (zc @hl1 (zc @A11 (zc @A0e (zc @ha (zc @hb (zc @Xk Qw8)))))))))))) (zc hF (zc hw Qw8)) Qw8 ?_;refine ⟨i+1,Weak.headF 1 47 [0,1,2,9,22,23] (zc @hn1 Qw8) (zV3 @A1d @A0E @A0F),?_,?_⟩
   ·exact hil
   ·omega
  ·have hnl: ¬(i:Int)<(n:Int):=by omega
   have ei:i=n:=by omega
   rw [ei];rw [ei] at hnl;refine zR (zc @hnl Qw8) Qw8 Qw8 ?_;simp [A4y,A1S,A0t,A1R,Tryz.results113]
theorem C4y (a b:List Int) (n:Nat) (h1:1≤n) (h12:n≤12) (ha:a.length=n) (hb:b.length=n) (ha1:bndL 1048576 a) (hb1:bndL 1048576 b) (hs: ∀v,v<n-> -1048576≤a.getD v 0+b.getD v 0∧a.getD v 0+b.getD v 0≤1048576):
  ACall Tryz.prog 72 [A0n a,A0n b] (.tup [A0n (B0Y a b n n),A0m 0]):=by
 have hE:=B9v a b n h1 h12 ha hb ha1 hb1 hs;have hl:=A7B a b n n;generalize B0Y a b n n=d at*;have hbi: ∀(H:List Blk) (k:IntKind) (x:Int),A0d H (.int k x)=some (.int k x):=fun _ _ _=>rfl;have hr0:A0d [.box (iC d)] (.ref 0 1 0 n n)=some (.slice (A0o d)):=A9M hl rfl;refine ACall.of_body Tryz.func72 rfl (by kernel_rfl) ?_;simp only [entry,Tryz.ntmps72,A0n];refine zU ?_;refine zJ Qw8 Qw8 Qw8 (zc hE Qw8) Qw8 ?_;simp [A0z,A0y,Tryz.results72,A0t,A0u,toT,hr0,hbi,A0n,A0m]
theorem C1m (d:List Int) {n:Nat} (hd:d.length=n) (hn:n≤100) (hb:bndL (2^40) d):ACall Tryz.prog 32 [A0n d] (A0m (A7t d n)):=by
 have e0:A7t d 0=0:=rfl;refine ACall.of_body Tryz.func32 rfl (by kernel_rfl) ?_;simp only [entry,Tryz.ntmps32,A0n];refine zU ?_;refine zR Qw8 Qw8 Qw8 ?_;refine AWp.loopS (α:=Nat) 18 (fun i=>[(0,.c (.slice (A0o d) .none)),(3,.c (.int .i64 (A7t d i))),(4,.c (.int .i64 (i:Int)))]) (fun i=>[]) (fun i=>i≤n) (fun i=>n-i) (0) (hk:=Weak.headL 0 18 [0,3,4] (zV2 @A1d @A0E)) (h0:=?_) (round:=fun i hI=>?_)
 ·exact Xj _
 ·have hi:i≤n:=hI;clear hI;by_cases hil:i<n
  ·have hiI:(i:Int)<(n:Int):=by omega
   have hg:=A0w (A1j (d:=d) (i:=i) (by omega));have hx:=hb i;have hs: -(2^40*i)≤A7t d i∧A7t d i≤2^40*i:=B0Q hb i;have hnx:A7t d (i+1)=A7t d i+d.getD i 0:=rfl;generalize hN1:A7t d (i+1)=N1 at*;generalize A7t d i=N0 at*;generalize d.getD i 0=x at*;refine zR (zc @hiI (zc @hg (zc @A0e (zc @hd (zc @Xk Qw8))))) Qw8 Qw8 ?_;refine ⟨i+1,Weak.headF 0 18 [0,3,4] (zc @hN1 (zc @hnx Qw8)) (zV2 @A1d @A0E),?_,?_⟩
   ·exact hil
   ·omega
  ·have hnl: ¬(i:Int)<(n:Int):=by omega
   have ei:i=n:=by omega
   rw [ei];rw [ei] at hnl;refine zR (zc @hnl (zc @A0e (zc @hd Qw8))) Qw8 Qw8 ?_;simp [A0z,A0y,Blk.cells,ty,Tryz.results32,A0t,A0u,toT,A0d,A0b,A0c,A0a,A0m]
end Go.Proofs.YtdbdfkohpjefjaaGreat
