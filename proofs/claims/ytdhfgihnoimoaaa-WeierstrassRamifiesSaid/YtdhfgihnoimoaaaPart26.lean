/- A part of the proof. -/
import Derived.Test.YtdhfgihnoimoaaaPart22
import Derived.Test.YtdhfgihnoimoaaaPart08
import Derived.Test.YtdhfgihnoimoaaaLayerC
set_option linter.all false
set_option maxHeartbeats 4000000
set_option maxRecDepth 100000
namespace Go.Proofs.Ytdhfgihnoimoaaa
open Go.Sp
def B4i (n:Int):TVal:= .t (.int .u64 n)
theorem B9D (n:Nat) (hn:n<2^32):B4m .and .u64 (n:Int) 4294967295=(n:Int):=by
 show IntKind.u64.wrap (((BitVec.ofInt IntKind.u64.bits (n:Int)&&&BitVec.ofInt IntKind.u64.bits 4294967295).toNat:Nat):Int)=(n:Int)
 have e1:(BitVec.ofInt IntKind.u64.bits (n:Int)).toNat=n:=by
  rw [BitVec.toNat_ofInt]
  show ((n:Int)%((2^64:Nat):Int)).toNat=n
  omega
 have e2:(BitVec.ofInt IntKind.u64.bits 4294967295).toNat=2^32-1:=by decide
 rw [BitVec.toNat_and,e1,e2,Nat.and_two_pow_sub_one_eq_mod,Nat.mod_eq_of_lt hn]
 exact wrap_in ⟨by omega,by omega⟩
theorem B95 (x:Int) (h0:0≤x) (h1:x<4294967296):x.fdiv (2^min 32 IntKind.u64.bits)=0:=by
 rw [show (2:Int)^min 32 IntKind.u64.bits=4294967296 by decide,Int.fdiv_eq_ediv_of_nonneg _ (by omega)]
 omega
theorem B8v (x:Int) (h0:0≤x) (h1:x<4294967296):x.fdiv (2^min 32 64)=0:=B95 x h0 h1
theorem B6P (n:Nat) (hn:n<2^30):ACall Try.prog 128 [B4i 1,B4i n] (.tup [B4i 0,B4i n]):=by
 have a1:B4m .and .u64 1 4294967295=1:=by decide
 have a0:B4m .and .u64 0 4294967295=0:=by decide
 have an:=B9D n (by omega)
 have s1:=B95 1 (by omega) (by omega)
 have s0:=B95 0 (by omega) (by omega)
 have sn:=B95 n (by omega) (by omega)
 have t1:=B8v 1 (by omega) (by omega)
 have t0:=B8v 0 (by omega) (by omega)
 have tn:=B8v n (by omega) (by omega)
 refine ACall.of_body Try.func128 rfl (by kernel_rfl) ?_
 simp only [entry,Try.ntmps128,B4i]
 refine zU ?_
 refine zR (zc @a1 (zc @a0 (zc @an (zc @s1 (zc @s0 (zc @sn (zc @t1 (zc @t0 (zc @tn (zc @Int.one_mul (zc @Int.zero_mul (zc @Int.mul_zero (zc @Int.add_zero (zc @Int.zero_add trivial)))))))))))))) trivial trivial ?_
 simp [A0E,A0C,Blk.cells,ty,Try.results128,A0y,A05,toT,A0e,A0c,A0d,A0a,B4i]
theorem B9k (n:Nat) (hn:n<2^30):ACall Try.prog 125 [B4i 1,B4i n] (.tup [B4i 0,B4i n]):=by
 have h:=B6P n hn
 refine ACall.of_body Try.func125 rfl (by kernel_rfl) ?_
 simp only [entry,Try.ntmps125,B4i]
 refine zU ?_
 refine zR trivial (zc h trivial) trivial ?_
 simp [A0E,A0C,Blk.cells,ty,Try.results125,A0y,A05,toT,A0e,A0c,A0d,A0a,B4i]
def B4j (N n:Nat):List Int:=List.replicate n (-1)++List.replicate (N-n) 0
theorem B6Q {N n:Nat} (h:n≤N):(B4j N n).length=N:=by simp [B4j]; omega
theorem B5m (N:Nat):B4j N 0=List.replicate N 0:=by simp [B4j]
theorem B6R (N:Nat):B4j N N=List.replicate N (-1):=by simp [B4j]
theorem B5n {N n m:Nat} (h:m≤n):((iC (B4j N n)).drop 0).take m=iC (List.replicate m (-1)):=by
 unfold B4j
 rw [List.drop_zero,A5G,B4L,B4L,B4L,List.take_append_of_le_length (by simpa using h),List.take_replicate,Nat.min_eq_left h]
theorem B2C {N n m:Nat} (h:n+m≤N):setMany (iC (B4j N n)) n (iC (List.replicate m (-1)))=iC (B4j N (n+m)):=by
 have e:List.replicate (N-n) (0:Int)=List.replicate m 0++List.replicate (N-(n+m)) 0:=by
  rw [List.replicate_append_replicate]; congr 1; omega
 have e2:List.replicate (n+m) (-1:Int)=List.replicate n (-1)++List.replicate m (-1):=List.replicate_append_replicate.symm
 unfold B4j
 rw [e,e2,←List.append_assoc,A5G,A5G,A5G,A5G]
 have:=A7K (iC (List.replicate n (-1))) (iC (List.replicate m 0)) (iC (List.replicate (N-(n+m)) 0)) (iC (List.replicate m (-1))) (by simp [A0F])
 rwa [A0F,List.length_replicate] at this
theorem B5o: ∀B:List Int,A3I (iC B)=true
 | []=>rfl
 | _::B=>B5o B
theorem B5p (N:Nat) (hN:N<2^20) (pre:List Blk) (hpre: ∀b,b∈pre→blkIn (pre.length+1) b):
  ACallH Try.prog 121 pre [.c (.slice [[.int .i64 (-1)]] .exact),.c (.int .i64 N)] (pre++[.box (iC (List.replicate N (-1)))]) (.c (.ref pre.length 1 0 N N)):=by
 have hgt: ∀X:Blk,(pre++[X])[pre.length]? =some X:=fun X=>by simp
 have hst: ∀X Y:Blk,(pre++[X]).set pre.length Y=pre++[Y]:=fun X Y=>by rw [List.set_append_right _ _ (Nat.le_refl _),Nat.sub_self]; rfl
 have hM:=B9k N (by omega)
 have n0: ¬((N:Int)<0):=by omega
 have n1: ¬(9223372036854775807<(N:Int)):=by omega
 refine ACallH.of_body Try.func121 rfl (by kernel_rfl) ?_
 simp only [entry,Try.ntmps121,List.length_cons,List.length_nil,Nat.reduceAdd,Nat.reduceSub,List.replicate_succ,List.replicate_zero,List.cons_append,List.nil_append]
 by_cases hz:N=0
 ·subst hz
  refine zR (zc @A1R (zc @hgt (zc @hst trivial))) (zc hM trivial) trivial ?_
  refine AWp.loopS (α:=Unit) 48 (fun k=>[(7,.c (.ref pre.length 1 0 0 0)),(8,.c (.int .i64 0))]) (fun k=>pre++[.box (iC [])]) (fun k=>True) (fun k=>0) (()) (hk:=A0s.headL (pre.length+1) 48 [7,8] (by (repeat' (first | exact A0q _ | exact A04 _ | exact A0l _ | refine And.intro ?_ ?_ | refine A0n ?_ ?_ | refine A0i ?_ ?_ | refine A0h ?_ ?_ | exact True.intro | exact A5H hpre | (show _<_; omega) | exact A01 (fun _=>True.intro) | (intro c hc; cases hc; done) | (intro c hc; simp only [List.mem_cons,List.not_mem_nil,or_false] at hc; subst hc; first | exact True.intro | exact A5H hpre | (show _<_; omega)) | (intro c hc; simp only [List.mem_cons,List.not_mem_nil,or_false] at hc; rcases hc with rfl | rfl<;>first | exact True.intro | exact A5H hpre | (show _<_; omega)))))) (h0:=?_) (round:=fun k hI=>?_)
  ·trivial
  ·
   refine zR trivial trivial trivial ?_
   simp [A2W,A1M,A0y,A1L,Try.results121]
 ·have h1:=B2C (N:=N) (n:=0) (m:=1) (by omega)
  rw [Nat.zero_add,B5m] at h1
  refine zR2 (zc @n0 (zc @n1 (zc @A1R (zc @hgt (zc @hst (zc @hz trivial)))))) (zc hM trivial) trivial ?_ ?_
  ·rw [A0F,List.length_replicate]; omega
  ·have hfl:flatRows [[Tree.int IntKind.i64 (-1)]]=iC (List.replicate 1 (-1)):=rfl
   rw [hfl,h1]
   refine AWp.loopS (α:=Nat) 48 (fun k=>[(7,.c (.ref pre.length 1 0 N N)),(8,.c (.int .i64 ((k:Int)+1)))]) (fun k=>pre++[.box (iC (B4j N (k+1)))]) (fun k=>k+1≤N) (fun k=>N-k) (0) (hk:=A0s.headL (pre.length+1) 48 [7,8] (by (repeat' (first | exact A0q _ | exact A04 _ | exact A0l _ | refine And.intro ?_ ?_ | refine A0n ?_ ?_ | refine A0i ?_ ?_ | refine A0h ?_ ?_ | exact True.intro | exact A5H hpre | (show _<_; omega) | exact A01 (fun _=>True.intro) | (intro c hc; cases hc; done) | (intro c hc; simp only [List.mem_cons,List.not_mem_nil,or_false] at hc; subst hc; first | exact True.intro | exact A5H hpre | (show _<_; omega)) | (intro c hc; simp only [List.mem_cons,List.not_mem_nil,or_false] at hc; rcases hc with rfl | rfl<;>first | exact True.intro | exact A5H hpre | (show _<_; omega)))))) (h0:=?_) (round:=fun k hI=>?_)
   ·omega
   ·have hk:k+1≤N:=hI
    clear hI
    by_cases hlt:k+1<N
    ·have hltI:(k:Int)+1<N:=by omega
     have ht:((k:Int)+1).toNat=k+1:=by omega
     obtain ⟨q,hq⟩: ∃q,Nat.min (k+1) (N-(k+1))=q:=⟨_,rfl⟩
     have hq1:q≤k+1:=by rw [←hq]; exact Nat.min_le_left _ _
     have hq2:q≤N-(k+1):=by rw [←hq]; exact Nat.min_le_right _ _
     have hq3:1≤q:=by rw [←hq]; exact Nat.le_min.2 ⟨by omega,by omega⟩
     have htk:=B5n (N:=N) hq1
     rw [List.drop_zero] at htk
     have hpu:=B2C (N:=N) (n:=k+1) (m:=q) (by omega)
     have hlenR:=B6Q hk
     have hfr:=B5o (List.replicate q (-1))
     have hNt:(N:Int).toNat=N:=Int.toNat_natCast N
     have l1:k+1+q≤N:=by omega
     have l2:q≤N:=by omega
     have b1:(0:Int)≤(k:Int)+1:=by omega
     have b2:(k:Int)+1≤N:=by omega
     repeat' (first|((first|(refine zT ?_;intro K' hK')|(refine zG ?_ ?_<;>(try refine zH ?_)<;>intro hguard<;>(try exact zX)<;>try intro K' hK'))<;>((try simp+contextual only [go_sem,hltI,ht,hq,hgt,hst,htk,hpu,A0F,hlenR,hfr,hNt,l1,l2,b1,b2,Nat.zero_add,Nat.sub_zero,List.drop_zero,or_true,true_or]);(repeat' first|(with_reducible refine hK' _ _ ?_;clear hK' K')|exact zY|with_reducible refine And.intro ?_ ?_|(with_reducible intro hpath;try exact zP)|(refine hK' _ _ ?_;clear hK' K')|fail);try refine zS ?_))|(refine zE ?_;refine hK _ _ ?_;clear hK K)|(refine zN ?_;try refine zS ?_)|refine zA ?_|(refine zB ?_;intro K hK)|(refine zC ?_ ?_<;>(try refine zH ?_)<;>intro hcond<;>try exact zX)|fail)
     have e8:(k:Int)+1+(q:Int)=((k+q:Nat):Int)+1:=by omega
     have e9:k+1+q=k+q+1:=by omega
     rw [e8,e9]
     refine ⟨k+q,A0s.headN (pre.length+1) 48 [7,8] (by (repeat' (first | exact A0q _ | exact A04 _ | exact A0l _ | refine And.intro ?_ ?_ | refine A0n ?_ ?_ | refine A0i ?_ ?_ | refine A0h ?_ ?_ | exact True.intro | exact A5H hpre | (show _<_; omega) | exact A01 (fun _=>True.intro) | (intro c hc; cases hc; done) | (intro c hc; simp only [List.mem_cons,List.not_mem_nil,or_false] at hc; subst hc; first | exact True.intro | exact A5H hpre | (show _<_; omega)) | (intro c hc; simp only [List.mem_cons,List.not_mem_nil,or_false] at hc; rcases hc with rfl | rfl<;>first | exact True.intro | exact A5H hpre | (show _<_; omega))))),?_,?_⟩
     ·omega
     ·omega
    ·have ek:k+1=N:=by omega
     have hnl: ¬((k:Int)+1<N):=by omega
     rw [ek,B6R]
     refine zR (zc @hnl trivial) trivial trivial ?_
     simp [A2W,A1M,A0y,A1L,Try.results121]
theorem A4X {B:List Int} {n:Nat} (h:B.length=n) {H:List Blk} {id:Nat} (hid:H[id]? =some (.box (iC B))):A0e H (.ref id 1 0 n n)=some (.slice (A0p B)):=by
 have e:A0e H (.ref id 1 0 n n)=A0c H (.ref id 1 0 n n):=rfl
 have hf:=A6B (rows:=A0p B) (k:=1) (cap:=n) (fun r hr=>A1w hr) (fun r hr=>by obtain ⟨b,_,rfl⟩:=List.mem_map.1 hr; rfl) (by rw [A0f]; omega)
 rw [A35,A0f,h] at hf
 unfold A5g at hf
 rw [e]
 simp only [A0c,hid,Blk.cells,Option.bind_some]
 split at hf
 ·rename_i hc
  rw [if_pos hc]
  cases hm:(((iC B).drop 0).take (n*1)).mapM A0a with
  | none=>rw [hm] at hf; simp at hf
  | some ts=>
   rw [hm] at hf
   simp only [Option.bind_some] at hf
   split at hf
   ·simp at hf; simp [hf]
   ·simp at hf
 ·simp at hf
end Go.Proofs.Ytdhfgihnoimoaaa
