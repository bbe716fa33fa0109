/- A part of the proof. -/
import Derived.Test.YtdbdfkohpjefjaaGreatPart21
import Derived.Test.YtdbdfkohpjefjaaGreatPart13
set_option linter.all false
set_option maxHeartbeats 4000000
set_option maxRecDepth 100000
namespace Go.Proofs.YtdbdfkohpjefjaaGreat
open Go.Sp
theorem B2r (r:R) (hr:RSm r):ACall Tryz.prog 62 [tR r] (A0k (ribE r)):=by
 have h:=B3K r hr;generalize (if ribE r≠0 then [] else endsL r.es)=L at*;generalize ribE r=E at*;obtain ⟨n,es,ar⟩:=r;refine ACall.of_body Tryz.func62 rfl (by kernel_rfl) ?_;simp only [entry,Tryz.ntmps62,tR];refine zU ?_;refine zR Qw9 (zc h Qw9) Qw9 ?_;simp [A0y,A0x,Blk.cells,ty,Tryz.results62,A0s,A0t,toT,A0d,A0b,A0c,A0a,A0k]
theorem B9a (l:List E) (hne:l≠[]) (hl:l.length<2^30):ACall Tryz.prog 168 [.t (.slice (A0f l))] (.t (.slice (A0f l))):=by
 have hrn:A0f l≠[]:=by simpa [A0f] using hne
 have hrl:(A0f l).length=l.length:=A06 l;have hrk: ∀r,r∈A0f l->r.length=3:=fun r hr=>A6r hr;refine ACall.of_body Tryz.func168 rfl (by kernel_rfl) ?_;simp only [entry,Tryz.ntmps168];refine zU ?_;generalize A0f l=rows at*
 repeat' (first|((first|(refine zT ?_;intro K' hK')|(refine zG ?_ ?_<;>(try refine zH ?_)<;>intro hguard<;>(try exact zX)<;>try intro K' hK'))<;>((try simp+contextual only [go_sem,hrl,chunks,List.range,List.range.loop]);(repeat' first|(with_reducible refine hK' _ _ ?_;clear hK' K')|(exact hrn)|(with_reducible exact hrk _ (by assumption))|(exact .inr Qw7)|exact zY|with_reducible refine Qw8 ?_ ?_|(with_reducible intro hpath;try exact zP)|(refine hK' _ _ ?_;clear hK' K')|fail);try refine zS ?_))|(refine zE ?_;refine hK _ _ ?_;clear hK K)|(refine zN ?_;try refine zS ?_)|refine zA ?_|(refine zB ?_;intro K hK)|(refine zC ?_ ?_<;>(try refine zH ?_)<;>intro hcond<;>try exact zX)|fail)
 simp [A0y,A0x,Blk.cells,ty,Tryz.results168,A0s,A0t,toT,A0d,A0b,A0c,A0a]
theorem B3P:ACall Tryz.prog 168 [.t (.slice [])] (.t (.slice [])):=by
 refine ACall.of_body Tryz.func168 rfl (by kernel_rfl) ?_;simp only [entry,Tryz.ntmps168];refine zU ?_
 repeat' (first|((with_reducible refine AWp.seq (AWp.of_reg (id:=1) (AReg.pre 1 (fun K hK=>?_))));simp only [List.take_succ_cons,List.take_zero])|((with_reducible refine AWp.of_reg (id:=1) (AReg.pre 1 (fun K hK=>?_)));simp only [List.take_succ_cons,List.take_zero])|((first|(refine zT ?_;intro K' hK')|(refine zG ?_ ?_<;>(try refine zH ?_)<;>intro hguard<;>(try exact zX)<;>try intro K' hK'))<;>((try simp+contextual only [go_sem]);(repeat' first|(with_reducible refine hK' _ _ ?_;clear hK' K')|exact zY|with_reducible refine Qw8 ?_ ?_|(with_reducible intro hpath;try exact zP)|(refine hK' _ _ ?_;clear hK' K')|fail);try refine zS ?_))|(refine zE ?_;refine hK _ _ ?_;clear hK K)|(refine zN ?_;try refine zS ?_)|refine zA ?_|(refine zB ?_;intro K hK)|(refine zC ?_ ?_<;>(try refine zH ?_)<;>intro hcond<;>try exact zX)|fail)
 simp only [Zw,ZW];refine AReg.nilq (e:=132) false rfl rfl rfl (by simp only [ty]) rfl rfl (fun b=>AReg.rest (fun K hK=> ?_));cases b
 ·
  repeat' (first|((first|(refine zT ?_;intro K' hK')|(refine zG ?_ ?_<;>(try refine zH ?_)<;>intro hguard<;>(try exact zX)<;>try intro K' hK'))<;>((try simp+contextual only [go_sem,List.length_nil,chunks,List.range,List.range.loop,Zj]);(repeat' first|(with_reducible refine hK' _ _ ?_;clear hK' K')|(exact .inr Qw7)|(exact absurd Qw7 (by assumption))|exact zY|with_reducible refine Qw8 ?_ ?_|(with_reducible intro hpath;try exact zP)|(refine hK' _ _ ?_;clear hK' K')|fail);try refine zS ?_))|(refine zE ?_;refine hK _ _ ?_;clear hK K)|(refine zN ?_;try refine zS ?_)|refine zA ?_|(refine zB ?_;intro K hK)|(refine zC ?_ ?_<;>(try refine zH ?_)<;>intro hcond<;>try exact zX)|fail)
  simp [A0y,A0x,Blk.cells,ty,Tryz.results168,A0s,A0t,toT,A0d,A0b,A0c,A0a]
 ·
  repeat' (first|((first|(refine zT ?_;intro K' hK')|(refine zG ?_ ?_<;>(try refine zH ?_)<;>intro hguard<;>(try exact zX)<;>try intro K' hK'))<;>((try simp+contextual only [go_sem]);(repeat' first|(with_reducible refine hK' _ _ ?_;clear hK' K')|exact zY|with_reducible refine Qw8 ?_ ?_|(with_reducible intro hpath;try exact zP)|(refine hK' _ _ ?_;clear hK' K')|fail);try refine zS ?_))|(refine zE ?_;refine hK _ _ ?_;clear hK K)|(refine zN ?_;try refine zS ?_)|refine zA ?_|(refine zB ?_;intro K hK)|(refine zC ?_ ?_<;>(try refine zH ?_)<;>intro hcond<;>try exact zX)|fail)
  simp [A0y,A0x,Blk.cells,ty,Tryz.results168,A0s,A0t,toT,A0d,A0b,A0c,A0a]
theorem B9b (g:G) (hl:g.es.length≤40):ACall Tryz.prog 131 [tG g] (tG g):=by
 obtain ⟨n,es⟩:=g;simp only at hl;by_cases he:es=[]
 ·subst he;have hN:=B3P;refine ACall.of_body Tryz.func131 rfl (by kernel_rfl) ?_;simp only [entry,Tryz.ntmps131,tG,A0f];refine zU ?_;refine zR Qw9 (zc hN Qw9) Qw9 ?_;simp [A0y,A0x,Blk.cells,ty,Tryz.results131,A0s,A0t,toT,A0d,A0b,A0c,A0a,tG,A0f]
 ·have hC:=B9a es he (by omega);refine ACall.of_body Tryz.func131 rfl (by kernel_rfl) ?_;simp only [entry,Tryz.ntmps131,tG];refine zU ?_;refine zR Qw9 (zc hC Qw9) Qw9 ?_;simp [A0y,A0x,Blk.cells,ty,Tryz.results131,A0s,A0t,toT,A0d,A0b,A0c,A0a,tG]
theorem B3Q (g:G) (hl:g.es.length≤40):ACall Tryz.prog 79 [tG g] (.tup [tR (if A0r g≠0 then ⟨0,[],[]⟩ else ⟨g.n,g.es,A1h (endsL g.es) g.n.toNat (2*(endsL g.es).length)⟩),A0k (A0r g)]):=by
 have hJ:=B0i g hl;have hC:=B9b g hl;by_cases hj:A0r g=0
 case neg=>
  rw [if_pos hj];have hL: ∃L,(if checkG g≠0 then [] else endsL g.es)=L:=⟨_,rfl⟩;obtain ⟨L,hL⟩:=hL;rw [hL] at hJ;generalize A0r g=E at*;obtain ⟨n,es⟩:=g;refine ACall.of_body Tryz.func79 rfl (by kernel_rfl) ?_;simp only [entry,Tryz.ntmps79,tG];refine zU ?_;refine zR (zc @hj Qw9) (zc hJ Qw9) Qw9 ?_;simp [A0y,A0x,Blk.cells,ty,Tryz.results79,A0s,A0t,toT,A0d,A0b,A0c,A0a,A0k,tR,A0f,A00]
 have hc:checkG g=0:=by
  unfold A0r at hj;by_cases h:checkG g=0
  ·exact h
  ·rw [if_pos h] at hj; exact absurd hj h
 have h12:=(A0h.1 hc).1;have hlen:=A1B hl hc;rw [if_neg (by omega),hj] at hJ;rw [if_neg (by omega),hj];have hat: ∀h,h<2*(endsL g.es).length->0≤atL (endsL g.es) h∧atL (endsL g.es) h<(g.n.toNat:Nat):=fun h hh=>by
  have:=A1I (r:=⟨g.n,g.es,[]⟩) hc hh;have h1:(⟨g.n,g.es,[]⟩:R).n=g.n:=rfl;have h2:(⟨g.n,g.es,[]⟩:R).es=g.es:=rfl;rw [h1,h2] at this;omega
 have hH:=B2b (endsL g.es) g.n.toNat (by omega) (by omega) hat;rw [show ((g.n.toNat:Nat):Int)=g.n by omega] at hH;clear hat hc hj;obtain ⟨n,es⟩:=g;simp only at hH hJ ⊢;generalize A1h (endsL es) n.toNat (2*(endsL es).length)=hs at*;generalize endsL es=L at*;refine ACall.of_body Tryz.func79 rfl (by kernel_rfl) ?_;simp only [entry,Tryz.ntmps79,tG];refine zU ?_;refine zR Qw9 (zc hJ (zc hC (zc hH Qw9))) Qw9 ?_;simp [A0y,A0x,Blk.cells,ty,Tryz.results79,A0s,A0t,toT,A0d,A0b,A0c,A0a,A0k,tR]
theorem C3H (h:Nat):h ^^^ 1=oppH h:=by
 have h1:(h ^^^ 1) / 2=h / 2:=by
  have:=Nat.xor_div_two (a:=h) (b:=1);simpa using this
 have h2:(h ^^^ 1)%2=1-h%2:=by
  rcases Nat.mod_two_eq_zero_or_one h with e | e
  ·have:(h ^^^ 1)%2=1:=by rw [Nat.xor_mod_two_eq_one]; simp [e]
   omega
  ·have: ¬(h ^^^ 1)%2=1:=by rw [Nat.xor_mod_two_eq_one]; simp [e]
   omega
 unfold oppH; omega
theorem C1E (h:Nat) (hh:h<2^40):IntKind.i64.wrap (((BitVec.ofInt IntKind.i64.bits (h:Int) ^^^ BitVec.ofInt IntKind.i64.bits 1).toNat:Nat):Int)=((oppH h:Nat):Int):=by
 have e1:(BitVec.ofInt IntKind.i64.bits (h:Int)).toNat=h:=by
  rw [BitVec.toNat_ofInt];show ((h:Int)%((2^64:Nat):Int)).toNat=h;omega
 have e2:(BitVec.ofInt IntKind.i64.bits 1).toNat=1:=by decide
 rw [BitVec.toNat_xor,e1,e2,C3H];exact wrap_in ⟨by omega,by unfold oppH; omega⟩
@[simp] theorem C6l (f:Nat->Nat) (s:Nat):it f 0 s=s:=rfl
def B7j (n:Int):TVal:= .t (.int .u64 n)
theorem C6m (n:Nat) (hn:n<2^32):B5B .and .u64 (n:Int) 4294967295=(n:Int):=by
 show IntKind.u64.wrap (((BitVec.ofInt IntKind.u64.bits (n:Int)&&&BitVec.ofInt IntKind.u64.bits 4294967295).toNat:Nat):Int)=(n:Int);have e1:(BitVec.ofInt IntKind.u64.bits (n:Int)).toNat=n:=by
  rw [BitVec.toNat_ofInt];show ((n:Int)%((2^64:Nat):Int)).toNat=n;omega
 have e2:(BitVec.ofInt IntKind.u64.bits 4294967295).toNat=2^32-1:=by decide
 rw [BitVec.toNat_and,e1,e2,Nat.and_two_pow_sub_one_eq_mod,Vx hn];exact wrap_in ⟨by omega,by omega⟩
theorem C5T (x:Int) (h0:0≤x) (h1:x<4294967296):x.fdiv (2^min 32 IntKind.u64.bits)=0:=by
 rw [show (2:Int)^min 32 IntKind.u64.bits=4294967296 by decide,Int.fdiv_eq_ediv_of_nonneg _ (by omega)];omega
theorem C3I (x:Int) (h0:0≤x) (h1:x<4294967296):x.fdiv (2^min 32 64)=0:=C5T x h0 h1
theorem C1F (n:Nat) (hn:n<2^30):ACall Tryz.prog 223 [B7j 1,B7j n] (.tup [B7j 0,B7j n]):=by
 have a1:B5B .and .u64 1 4294967295=1:=by decide
 have a0:B5B .and .u64 0 4294967295=0:=by decide
 have an:=C6m n (by omega);have s1:=C5T 1 (by omega) (by omega);have s0:=C5T 0 (by omega) (by omega);have sn:=C5T n (by omega) (by omega);have t1:=C3I 1 (by omega) (by omega);have t0:=C3I 0 (by omega) (by omega);have tn:=C3I n (by omega) (by omega);refine ACall.of_body Tryz.func223 rfl (by kernel_rfl) ?_;simp only [entry,Tryz.ntmps223,B7j];refine zU ?_;refine zR (zc @a1 (zc @a0 (zc @an (zc @s1 (zc @s0 (zc @sn (zc @t1 (zc @t0 (zc @tn (zc @Int.one_mul (zc @Int.zero_mul (zc @Int.mul_zero (zc @Int.add_zero (zc @Int.zero_add Qw9)))))))))))))) Qw9 Qw9 ?_;simp [A0y,A0x,Blk.cells,ty,Tryz.results223,A0s,A0t,toT,A0d,A0b,A0c,A0a,B7j]
theorem C5p (n:Nat) (hn:n<2^30):ACall Tryz.prog 200 [B7j 1,B7j n] (.tup [B7j 0,B7j n]):=by
 have h:=C1F n hn;refine ACall.of_body Tryz.func200 rfl (by kernel_rfl) ?_;simp only [entry,Tryz.ntmps200,B7j];refine zU ?_;refine zR Qw9 (zc h Qw9) Qw9 ?_;simp [A0y,A0x,Blk.cells,ty,Tryz.results200,A0s,A0t,toT,A0d,A0b,A0c,A0a,B7j]
def B7k (N n:Nat):List Int:=List.replicate n (-1)++List.replicate (N-n) 0
theorem C1G {N n:Nat} (h:n≤N):(B7k N n).length=N:=by simp [B7k]; omega
theorem B9c (N:Nat):B7k N 0=List.replicate N 0:=by simp [B7k]
theorem C1H (N:Nat):B7k N N=List.replicate N (-1):=by simp [B7k]
theorem B9d {N n m:Nat} (h:m≤n):((iC (B7k N n)).drop 0).take m=iC (List.replicate m (-1)):=by
 unfold B7k;rw [ZW,B1Z,B8n,B8n,B8n,ZQ (by simpa using h),List.take_replicate,Qq1 h]
theorem B5e {N n m:Nat} (h:n+m≤N):setMany (iC (B7k N n)) n (iC (List.replicate m (-1)))=iC (B7k N (n+m)):=by
 have e:List.replicate (N-n) (0:Int)=List.replicate m 0++List.replicate (N-(n+m)) 0:=by
  rw [List.replicate_append_replicate]; congr 1; omega
 have e2:List.replicate (n+m) (-1:Int)=List.replicate n (-1)++List.replicate m (-1):=List.replicate_append_replicate.symm;unfold B7k;rw [e,e2,<-Zk,B1Z,B1Z,B1Z,B1Z];have:=B3x (iC (List.replicate n (-1))) (iC (List.replicate m 0)) (iC (List.replicate (N-(n+m)) 0)) (iC (List.replicate m (-1))) (by simp [A12]);rwa [A12,Yx] at this
theorem B9e: ∀B:List Int,A3X (iC B)=true
 | []=>rfl
 | _::B=>B9e B
theorem B9f (N:Nat) (hN:N<2^20) (pre:List Blk) (hpre: ∀b,b∈pre->blkIn (pre.length+1) b):
  ACallH Tryz.prog 184 pre [.c (.slice [[.int .i64 (-1)]] .exact),.c (.int .i64 N)] (pre++[.box (iC (List.replicate N (-1)))]) (.c (.ref pre.length 1 0 N N)):=by
 have hgt: ∀X:Blk,(pre++[X])[pre.length]? =some X:=fun X=>by simp
 have hst: ∀X Y:Blk,(pre++[X]).set pre.length Y=pre++[Y]:=fun X Y=>by rw [JV _ _ (QQ _),JQ]; rfl
 have hM:=C5p N (by omega);have n0: ¬((N:Int)<0):=by omega
 have n1: ¬(9223372036854775807<(N:Int)):=by omega
 refine ACallH.of_body Tryz.func184 rfl (by kernel_rfl) ?_;simp only [entry,Tryz.ntmps184,List.length_cons,List.length_nil,Nat.reduceAdd,Nat.reduceSub,List.replicate_succ,List.replicate_zero,List.cons_append,List.nil_append];by_cases hz:N=0
 ·subst hz;refine zR (zc @A1P (zc @hgt (zc @hst Qw9))) (zc hM Qw9) Qw9 ?_;refine AWp.loopS (α:=Unit) 48 (fun k=>[(7,.c (.ref pre.length 1 0 0 0)),(8,.c (.int .i64 0))]) (fun k=>pre++[.box (iC [])]) (fun k=>True) (fun k=>0) (()) (hk:=Weak.headL (pre.length+1) 48 [7,8] (by (repeat' (first | exact A0n _ | exact A0v _ | exact A0i _ | refine Qw8 ?_ ?_ | refine A0j ?_ ?_ | refine A0l ?_ ?_ | refine A0g ?_ ?_ | exact Qw7 | exact A6v hpre | (show _<_; omega) | exact A0q (fun _=>Qw7) | (intro c hc; cases hc; done) | (intro c hc; simp only [Qw,Qk,or_false] at hc; subst hc; first | exact Qw7 | exact A6v hpre | (show _<_; omega)) | (intro c hc; simp only [Qw,Qk,or_false] at hc; rcases hc with rfl | rfl<;>first | exact Qw7 | exact A6v hpre | (show _<_; omega)))))) (h0:=?_) (round:=fun k hI=>?_)
  ·trivial
  ·
   refine zR Qw9 Qw9 Qw9 ?_;simp [A4D,A1Y,A0s,A1X,Tryz.results184]
 ·have h1:=B5e (N:=N) (n:=0) (m:=1) (by omega);rw [Xy,B9c] at h1;refine zR2 (zc @n0 (zc @n1 (zc @A1P (zc @hgt (zc @hst (zc @hz Qw9)))))) (zc hM Qw9) Qw9 ?_ ?_
  ·rw [A12,Yx]; omega
  ·have hfl:flatRows [[Tree.int IntKind.i64 (-1)]]=iC (List.replicate 1 (-1)):=rfl;rw [hfl,h1];refine AWp.loopS (α:=Nat) 48 (fun k=>[(7,.c (.ref pre.length 1 0 N N)),(8,.c (.int .i64 ((k:Int)+1)))]) (fun k=>pre++[.box (iC (B7k N (k+1)))]) (fun k=>k+1≤N) (fun k=>N-k) (0) (hk:=Weak.headL (pre.length+1) 48 [7,8] (by (repeat' (first | exact A0n _ | exact A0v _ | exact A0i _ | refine Qw8 ?_ ?_ | refine A0j ?_ ?_ | refine A0l ?_ ?_ | refine A0g ?_ ?_ | exact Qw7 | exact A6v hpre | (show _<_; omega) | exact A0q (fun _=>Qw7) | (intro c hc; cases hc; done) | (intro c hc; simp only [Qw,Qk,or_false] at hc; subst hc; first | exact Qw7 | exact A6v hpre | (show _<_; omega)) | (intro c hc; simp only [Qw,Qk,or_false] at hc; rcases hc with rfl | rfl<;>first | exact Qw7 | exact A6v hpre | (show _<_; omega)))))) (h0:=?_) (round:=fun k hI=>?_)
   ·omega
   ·have hk:k+1≤N:=hI;clear hI;by_cases hlt:k+1<N
    ·have hltI:(k:Int)+1<N:=by omega
     have ht:((k:Int)+1).toNat=k+1:=by omega
     obtain ⟨q,hq⟩: ∃q,Nat.min (k+1) (N-(k+1))=q:=⟨_,rfl⟩;have hq1:q≤k+1:=by rw [<-hq]; exact Nat.min_le_left _ _
     have hq2:q≤N-(k+1):=by rw [<-hq]; exact Nat.min_le_right _ _
     have hq3:1≤q:=by rw [<-hq]; exact Nat.le_min.2 ⟨by omega,by omega⟩
     have htk:=B9d (N:=N) hq1;rw [ZW] at htk;have hpu:=B5e (N:=N) (n:=k+1) (m:=q) (by omega);have hlenR:=C1G hk;have hfr:=B9e (List.replicate q (-1));have hNt:(N:Int).toNat=N:=Int.toNat_natCast N;have l1:k+1+q≤N:=by omega
     have l2:q≤N:=by omega
     have b1:(0:Int)≤(k:Int)+1:=by omega
     have b2:(k:Int)+1≤N:=by omega
     repeat' (first|((first|(refine zT ?_;intro K' hK')|(refine zG ?_ ?_<;>(try refine zH ?_)<;>intro hguard<;>(try exact zX)<;>try intro K' hK'))<;>((try simp+contextual only [go_sem,hltI,ht,hq,hgt,hst,htk,hpu,A12,hlenR,hfr,hNt,l1,l2,b1,b2,Xy,Nat.sub_zero,ZW,or_true,true_or]);(repeat' first|(with_reducible refine hK' _ _ ?_;clear hK' K')|exact zY|with_reducible refine Qw8 ?_ ?_|(with_reducible intro hpath;try exact zP)|(refine hK' _ _ ?_;clear hK' K')|fail);try refine zS ?_))|(refine zE ?_;refine hK _ _ ?_;clear hK K)|(refine zN ?_;try refine zS ?_)|refine zA ?_|(refine zB ?_;intro K hK)|(refine zC ?_ ?_<;>(try refine zH ?_)<;>intro hcond<;>try exact zX)|fail)
     have e8:(k:Int)+1+(q:Int)=((k+q:Nat):Int)+1:=by omega
     have e9:k+1+q=k+q+1:=by omega
     rw [e8,e9];refine ⟨k+q,Weak.headN (pre.length+1) 48 [7,8] (by (repeat' (first | exact A0n _ | exact A0v _ | exact A0i _ | refine Qw8 ?_ ?_ | refine A0j ?_ ?_ | refine A0l ?_ ?_ | refine A0g ?_ ?_ | exact Qw7 | exact A6v hpre | (show _<_; omega) | exact A0q (fun _=>Qw7) | (intro c hc; cases hc; done) | (intro c hc; simp only [Qw,Qk,or_false] at hc; subst hc; first | exact Qw7 | exact A6v hpre | (show _<_; omega)) | (intro c hc; simp only [Qw,Qk,or_false] at hc; rcases hc with rfl | rfl<;>first | exact Qw7 | exact A6v hpre | (show _<_; omega))))),?_,?_⟩
     ·omega
     ·omega
    ·have ek:k+1=N:=by omega
     have hnl: ¬((k:Int)+1<N):=by omega
     rw [ek,C1H];refine zR (zc @hnl Qw9) Qw9 Qw9 ?_;simp [A4D,A1Y,A0s,A1X,Tryz.results184]
def C6A (l:List Nat):List Int:=l.map fun x:Nat=>(x:Int)
theorem B0o {B:List Int} {n:Nat} (h:B.length=n) {H:List Blk} {id:Nat} (hid:H[id]? =some (.box (iC B))):A0d H (.ref id 1 0 n n)=some (.slice (A0p B)):=by
 have e:A0d H (.ref id 1 0 n n)=A0b H (.ref id 1 0 n n):=rfl;have hf:=A4C (rows:=A0p B) (k:=1) (cap:=n) (fun r hr=>A1p hr) (fun r hr=>by obtain ⟨b,_,rfl⟩:=QJ.1 hr; rfl) (by rw [A0e]; omega);rw [A7b,A0e,h] at hf;unfold A4B at hf;rw [e];simp only [A0b,hid,Blk.cells,Option.bind_some];split at hf
 ·rename_i hc;rw [if_pos hc];cases hm:(((iC B).drop 0).take (n*1)).mapM A0a with
  | none=>rw [hm] at hf; simp at hf
  | some ts=>
   rw [hm] at hf;simp only [Option.bind_some] at hf;split at hf
   ·simp at hf; simp [hf]
   ·simp at hf
 ·simp at hf
def C5q (r:R):List (List Int):=(facesR r).map C6A
def ofF (r:R) (x:Nat):Int:=ofN (fR (endsL r.es) r.ar) (2*(endsL r.es).length) (2*(endsL r.es).length) x
def B9g (r:R):List (Int×Int):=(List.range (endsL r.es).length).map fun i=>(ofF r (2*i),ofF r (2*i+1))
noncomputable def C3J (r:R):G×Int:=A5L (facesR r).length (B9g r)
noncomputable def dualE (r:R):Int:=if ribE r≠0 then ribE r else if 12<(facesR r).length then 5 else (C3J r).2
def C6n (O N:List Int) (x:Int):Int:=
 2*N.getD (x.toNat / 2) 0+(if O.getD (oppH x.toNat) 0<O.getD x.toNat 0∨(O.getD x.toNat 0=O.getD (oppH x.toNat) 0∧x.toNat%2=1) then 1 else 0)
def C5r (r:R):List (List Int):=(C5q r).map fun l=>C5a (l.map (C6n (B8k (2*(endsL r.es).length) (ofF r)) (C6y (B9g r))))
noncomputable def dualD (r:R):R:=if dualE r≠0 then ⟨0,[],[]⟩ else ⟨(C3J r).1.n,(C3J r).1.es,C5r r⟩
noncomputable def dualN (r:R):List Int:=if dualE r≠0 then [] else C6y (B9g r)
end Go.Proofs.YtdbdfkohpjefjaaGreat
