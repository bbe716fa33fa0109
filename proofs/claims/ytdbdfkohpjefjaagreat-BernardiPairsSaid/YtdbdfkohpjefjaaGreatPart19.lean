/- A part of the proof. -/
import Derived.Test.YtdbdfkohpjefjaaGreatPart16
import Derived.Test.YtdbdfkohpjefjaaGreatPart09
set_option linter.all false
set_option maxHeartbeats 4000000
set_option maxRecDepth 100000
namespace Go.Proofs.YtdbdfkohpjefjaaGreat
open Go.Sp
def B3h (r:R) (hr:RSm r):ACall Tryz.prog 62 [tR r] (A0n (ribE r)):=by
 have h:=B4B r hr;generalize (if ribE r≠0 then [] else endsL r.es)=L at*;generalize ribE r=E at*;obtain ⟨n,es,ar⟩:=r;refine ACall.of_body Tryz.func62 rfl (by kernel_rfl) ?_;simp only [entry,Tryz.ntmps62,tR];refine zU ?_;refine zR Qv6 (zc h Qv6) Qv6 ?_;simp [A00,A0z,Blk.cells,ty,Tryz.results62,A0v,A0w,toT,A0d,A0b,A0c,A0a,A0n]
def B9V (l:List E) (hne:l≠[]) (hl:l.length<2^30):ACall Tryz.prog 168 [.t (.slice (A0f l))] (.t (.slice (A0f l))):=by
 have hrn:A0f l≠[]:=by simpa [A0f] using hne
 have hrl:(A0f l).length=l.length:=A07 l;have hrk: ∀r,r∈A0f l->r.length=3:=fun r hr=>A62 hr;refine ACall.of_body Tryz.func168 rfl (by kernel_rfl) ?_;simp only [entry,Tryz.ntmps168];refine zU ?_;generalize A0f l=rows at*;refine zMc Qv6 (zc @hrl Qv6) Qv6 Qv6 (zc hrn (zc @hrk Qv6)) (ed fun hp hpc=>?_);simp [A00,A0z,Blk.cells,ty,Tryz.results168,A0v,A0w,toT,A0d,A0b,A0c,A0a]
def B4F:ACall Tryz.prog 168 [.t (.slice [])] (.t (.slice [])):=by
 refine ACall.of_body Tryz.func168 rfl (by kernel_rfl) ?_;simp only [entry,Tryz.ntmps168];refine zU ?_;refine zM (zc Qv6 (prt 1 1)) Qv6 Qv6 Qv6 Qv6 (ed fun hp hpc=>?_);simp only [Zw,ZY];refine AReg.nilq (e:=132) false rfl rfl rfl (by simp only [ty]) rfl rfl (fun b=>AReg.rest (fun K hK=> ?_));cases b
 ·
  refine zMc trivial trivial trivial trivial trivial (ed fun hp hpc=>?_);simp [A00,A0z,Blk.cells,ty,Tryz.results168,A0v,A0w,toT,A0d,A0b,A0c,A0a]
 ·
  refine zM trivial trivial trivial trivial trivial (ed fun hp hpc=>?_);simp [A00,A0z,Blk.cells,ty,Tryz.results168,A0v,A0w,toT,A0d,A0b,A0c,A0a]
def B9W (g:G) (hl:g.es.length≤40):ACall Tryz.prog 131 [tG g] (tG g):=by
 obtain ⟨n,es⟩:=g;simp only at hl;by_cases he:es=[]
 ·subst he;have hN:=B4F;refine ACall.of_body Tryz.func131 rfl (by kernel_rfl) ?_;simp only [entry,Tryz.ntmps131,tG,A0f];refine zU ?_;refine zR Qv6 (zc hN Qv6) Qv6 ?_;simp [A00,A0z,Blk.cells,ty,Tryz.results131,A0v,A0w,toT,A0d,A0b,A0c,A0a,tG,A0f]
 ·have hC:=B9V es he (by omega);refine ACall.of_body Tryz.func131 rfl (by kernel_rfl) ?_;simp only [entry,Tryz.ntmps131,tG];refine zU ?_;refine zR Qv6 (zc hC Qv6) Qv6 ?_;simp [A00,A0z,Blk.cells,ty,Tryz.results131,A0v,A0w,toT,A0d,A0b,A0c,A0a,tG]
def B4G (g:G) (hl:g.es.length≤40):ACall Tryz.prog 79 [tG g] (.tup [tR (if A0t g≠0 then ⟨0,[],[]⟩ else ⟨g.n,g.es,A1l (endsL g.es) g.n.toNat (2*(endsL g.es).length)⟩),A0n (A0t g)]):=by
 have hJ:=B0G g hl;have hC:=B9W g hl;by_cases hj:A0t g=0
 case neg=>
  rw [if_pos hj];have hL: ∃L,(if checkG g≠0 then [] else endsL g.es)=L:=⟨_,rfl⟩;obtain ⟨L,hL⟩:=hL;rw [hL] at hJ;generalize A0t g=E at*;obtain ⟨n,es⟩:=g;refine ACall.of_body Tryz.func79 rfl (by kernel_rfl) ?_;simp only [entry,Tryz.ntmps79,tG];refine zU ?_;refine zR (zc @hj Qv6) (zc hJ Qv6) Qv6 ?_;simp [A00,A0z,Blk.cells,ty,Tryz.results79,A0v,A0w,toT,A0d,A0b,A0c,A0a,A0n,tR,A0f,A0u]
 have hc:checkG g=0:=by
  unfold A0t at hj;by_cases h:checkG g=0
  ·exact h
  ·rw [if_pos h] at hj; exact absurd hj h
 have h12:=(A0j.1 hc).1;have hlen:=A1T hl hc;rw [if_neg (by omega),hj] at hJ;rw [if_neg (by omega),hj];have hat: ∀h,h<2*(endsL g.es).length->0≤atL (endsL g.es) h∧atL (endsL g.es) h<(g.n.toNat:Nat):=fun h hh=>by
  have:=A1J (r:=⟨g.n,g.es,[]⟩) hc hh;have h1:(⟨g.n,g.es,[]⟩:R).n=g.n:=rfl;have h2:(⟨g.n,g.es,[]⟩:R).es=g.es:=rfl;rw [h1,h2] at this;omega
 have hH:=B2J (endsL g.es) g.n.toNat (by omega) (by omega) hat;rw [show ((g.n.toNat:Nat):Int)=g.n by omega] at hH;clear hat hc hj;obtain ⟨n,es⟩:=g;simp only at hH hJ ⊢;generalize A1l (endsL es) n.toNat (2*(endsL es).length)=hs at*;generalize endsL es=L at*;refine ACall.of_body Tryz.func79 rfl (by kernel_rfl) ?_;simp only [entry,Tryz.ntmps79,tG];refine zU ?_;refine zR Qv6 (zc hJ (zc hC (zc hH Qv6))) Qv6 ?_;simp [A00,A0z,Blk.cells,ty,Tryz.results79,A0v,A0w,toT,A0d,A0b,A0c,A0a,A0n,tR]
def C4O (h:Nat):h ^^^ 1=oppH h:=by
 have h1:(h ^^^ 1) / 2=h / 2:=by
  have:=Nat.xor_div_two (a:=h) (b:=1);simpa using this
 have h2:(h ^^^ 1)%2=1-h%2:=by
  rcases Vz h with e | e
  ·have:(h ^^^ 1)%2=1:=by rw [Nat.xor_mod_two_eq_one]; simp [e]
   omega
  ·have: ¬(h ^^^ 1)%2=1:=by rw [Nat.xor_mod_two_eq_one]; simp [e]
   omega
 unfold oppH; omega
def C2E (h:Nat) (hh:h<2^40):IntKind.i64.wrap (((BitVec.ofInt IntKind.i64.bits (h:Int) ^^^ BitVec.ofInt IntKind.i64.bits 1).toNat:Nat):Int)=((oppH h:Nat):Int):=by
 have e1:(BitVec.ofInt IntKind.i64.bits (h:Int)).toNat=h:=by
  rw [BitVec.toNat_ofInt];show ((h:Int)%((2^64:Nat):Int)).toNat=h;omega
 have e2:(BitVec.ofInt IntKind.i64.bits 1).toNat=1:=by decide
 rw [BitVec.toNat_xor,e1,e2,C4O];exact wrap_in ⟨by omega,by unfold oppH; omega⟩
@[simp] theorem C7t (f:Nat->Nat) (s:Nat):it f 0 s=s:=rfl
def B7Q (n:Int):TVal:= .t (.int .u64 n)
def C7u (n:Nat) (hn:n<2^32):B6s .and .u64 (n:Int) 4294967295=(n:Int):=by
 show IntKind.u64.wrap (((BitVec.ofInt IntKind.u64.bits (n:Int)&&&BitVec.ofInt IntKind.u64.bits 4294967295).toNat:Nat):Int)=(n:Int);have e1:(BitVec.ofInt IntKind.u64.bits (n:Int)).toNat=n:=by
  rw [BitVec.toNat_ofInt];show ((n:Int)%((2^64:Nat):Int)).toNat=n;omega
 have e2:(BitVec.ofInt IntKind.u64.bits 4294967295).toNat=2^32-1:=by decide
 rw [BitVec.toNat_and,e1,e2,Nat.and_two_pow_sub_one_eq_mod,Vj hn];exact wrap_in ⟨by omega,by omega⟩
def C6V (x:Int) (h0:0≤x) (h1:x<4294967296):x.fdiv (2^min 32 IntKind.u64.bits)=0:=by
 rw [show (2:Int)^min 32 IntKind.u64.bits=4294967296 by decide,Int.fdiv_eq_ediv_of_nonneg _ (by omega)];omega
def C4P (x:Int) (h0:0≤x) (h1:x<4294967296):x.fdiv (2^min 32 64)=0:=C6V x h0 h1
def C2F (n:Nat) (hn:n<2^30):ACall Tryz.prog 223 [B7Q 1,B7Q n] (.tup [B7Q 0,B7Q n]):=by
 have a1:B6s .and .u64 1 4294967295=1:=by decide
 have a0:B6s .and .u64 0 4294967295=0:=by decide
 have an:=C7u n (by omega);have s1:=C6V 1 (by omega) (by omega);have s0:=C6V 0 (by omega) (by omega);have sn:=C6V n (by omega) (by omega);have t1:=C4P 1 (by omega) (by omega);have t0:=C4P 0 (by omega) (by omega);have tn:=C4P n (by omega) (by omega);refine ACall.of_body Tryz.func223 rfl (by kernel_rfl) ?_;simp only [entry,Tryz.ntmps223,B7Q];refine zU ?_;refine zR (zc @a1 (zc @a0 (zc @an (zc @s1 (zc @s0 (zc @sn (zc @t1 (zc @t0 (zc @tn (zc @Int.one_mul (zc @Int.zero_mul (zc @Qv2 (zc @Int.add_zero (zc @Int.zero_add Qv6)))))))))))))) Qv6 Qv6 ?_;simp [A00,A0z,Blk.cells,ty,Tryz.results223,A0v,A0w,toT,A0d,A0b,A0c,A0a,B7Q]
def C6w (n:Nat) (hn:n<2^30):ACall Tryz.prog 200 [B7Q 1,B7Q n] (.tup [B7Q 0,B7Q n]):=by
 have h:=C2F n hn;refine ACall.of_body Tryz.func200 rfl (by kernel_rfl) ?_;simp only [entry,Tryz.ntmps200,B7Q];refine zU ?_;refine zR Qv6 (zc h Qv6) Qv6 ?_;simp [A00,A0z,Blk.cells,ty,Tryz.results200,A0v,A0w,toT,A0d,A0b,A0c,A0a,B7Q]
def B7R (N n:Nat):List Int:=List.replicate n (-1)++List.replicate (N-n) 0
def C2G {N n:Nat} (h:n≤N):(B7R N n).length=N:=by simp [B7R]; omega
def B9X (N:Nat):B7R N 0=List.replicate N 0:=by simp [B7R]
def C2H (N:Nat):B7R N N=List.replicate N (-1):=by simp [B7R]
def B9Y {N n m:Nat} (h:m≤n):((iC (B7R N n)).drop 0).take m=iC (List.replicate m (-1)):=by
 unfold B7R;rw [ZY,B2K,B8U,B8U,B8U,ZQ (by simpa using h),List.take_replicate,Qq1 h]
def B5K {N n m:Nat} (h:n+m≤N):setMany (iC (B7R N n)) n (iC (List.replicate m (-1)))=iC (B7R N (n+m)):=by
 have e:List.replicate (N-n) (0:Int)=List.replicate m 0++List.replicate (N-(n+m)) 0:=by
  rw [List.replicate_append_replicate]; congr 1; omega
 have e2:List.replicate (n+m) (-1:Int)=List.replicate n (-1)++List.replicate m (-1):=List.replicate_append_replicate.symm;unfold B7R;rw [e,e2,<-Zk,B2K,B2K,B2K,B2K];have:=B4j (iC (List.replicate n (-1))) (iC (List.replicate m 0)) (iC (List.replicate (N-(n+m)) 0)) (iC (List.replicate m (-1))) (by simp [A1N]);rwa [A1N,Yz] at this
def B9Z: ∀B:List Int,A4h (iC B)=true
 | []=>rfl
 | _::B=>B9Z B
def C0a (N:Nat) (hN:N<2^20) (pre:List Blk) (hpre: ∀b,b∈pre->blkIn (pre.length+1) b):
  ACallH Tryz.prog 184 pre [.c (.slice [[.int .i64 (-1)]] .exact),.c (.int .i64 N)] (pre++[.box (iC (List.replicate N (-1)))]) (.c (.ref pre.length 1 0 N N)):=by
 have hgt: ∀X:Blk,(pre++[X])[pre.length]? =some X:=fun X=>by simp
 have hst: ∀X Y:Blk,(pre++[X]).set pre.length Y=pre++[Y]:=fun X Y=>by rw [Vq _ _ (QQ _),Jz]; rfl
 have hM:=C6w N (by omega);have n0: ¬((N:Int)<0):=by omega
 have n1: ¬(9223372036854775807<(N:Int)):=by omega
 refine ACallH.of_body Tryz.func184 rfl (by kernel_rfl) ?_;simp only [entry,Tryz.ntmps184,List.length_cons,List.length_nil,Nat.reduceAdd,Nat.reduceSub,List.replicate_succ,List.replicate_zero,List.cons_append,List.nil_append];by_cases hz:N=0
 ·subst hz;refine zR (zc @A2h (zc @hgt (zc @hst Qv6))) (zc hM Qv6) Qv6 ?_;refine AWp.loopS (α:=Unit) 48 (fun k=>[(7,.c (.ref pre.length 1 0 0 0)),(8,.c (.int .i64 0))]) (fun k=>pre++[.box (iC [])]) (fun k=>True) (fun k=>0) (()) (hk:=Weak.headL (pre.length+1) 48 [7,8] (by (repeat' (first | exact A0m _ | exact A0s _ | exact A0i _ | refine Qv5 ?_ ?_ | refine A0k ?_ ?_ | refine A0l ?_ ?_ | refine A0h ?_ ?_ | exact Qv4 | exact A66 hpre | (show _<_; omega) | exact A0r (fun _=>Qv4) | (intro c hc; cases hc; done) | (intro c hc; simp only [Qw,Qv,or_false] at hc; subst hc; first | exact Qv4 | exact A66 hpre | (show _<_; omega)) | (intro c hc; simp only [Qw,Qv,or_false] at hc; rcases hc with rfl | rfl<;>first | exact Qv4 | exact A66 hpre | (show _<_; omega)))))) (h0:=?_) (round:=fun k hI=>?_)
  ·trivial
  ·
   refine zR Qv6 Qv6 Qv6 ?_;simp [A4O,A2c,A0v,A2b,Tryz.results184]
 ·have h1:=B5K (N:=N) (n:=0) (m:=1) (by omega);rw [XX,B9X] at h1;refine zR2 (zc @n0 (zc @n1 (zc @A2h (zc @hgt (zc @hst (zc @hz Qv6)))))) (zc hM Qv6) Qv6 ?_ ?_
  ·rw [A1N,Yz]; omega
  ·have hfl:flatRows [[Tree.int IntKind.i64 (-1)]]=iC (List.replicate 1 (-1)):=rfl;rw [hfl,h1];refine AWp.loopS (α:=Nat) 48 (fun k=>[(7,.c (.ref pre.length 1 0 N N)),(8,.c (.int .i64 ((k:Int)+1)))]) (fun k=>pre++[.box (iC (B7R N (k+1)))]) (fun k=>k+1≤N) (fun k=>N-k) (0) (hk:=Weak.headL (pre.length+1) 48 [7,8] (by (repeat' (first | exact A0m _ | exact A0s _ | exact A0i _ | refine Qv5 ?_ ?_ | refine A0k ?_ ?_ | refine A0l ?_ ?_ | refine A0h ?_ ?_ | exact Qv4 | exact A66 hpre | (show _<_; omega) | exact A0r (fun _=>Qv4) | (intro c hc; cases hc; done) | (intro c hc; simp only [Qw,Qv,or_false] at hc; subst hc; first | exact Qv4 | exact A66 hpre | (show _<_; omega)) | (intro c hc; simp only [Qw,Qv,or_false] at hc; rcases hc with rfl | rfl<;>first | exact Qv4 | exact A66 hpre | (show _<_; omega)))))) (h0:=?_) (round:=fun k hI=>?_)
   ·omega
   ·have hk:k+1≤N:=hI;clear hI;by_cases hlt:k+1<N
    ·have hltI:(k:Int)+1<N:=by omega
     have ht:((k:Int)+1).toNat=k+1:=by omega
     obtain ⟨q,hq⟩: ∃q,Nat.min (k+1) (N-(k+1))=q:=⟨_,rfl⟩;have hq1:q≤k+1:=by rw [<-hq]; exact Nat.min_le_left _ _
     have hq2:q≤N-(k+1):=by rw [<-hq]; exact Nat.min_le_right _ _
     have hq3:1≤q:=by rw [<-hq]; exact Nat.le_min.2 ⟨by omega,by omega⟩
     have htk:=B9Y (N:=N) hq1;rw [ZY] at htk;have hpu:=B5K (N:=N) (n:=k+1) (m:=q) (by omega);have hlenR:=C2G hk;have hfr:=B9Z (List.replicate q (-1));have hNt:(N:Int).toNat=N:=Int.toNat_natCast N;have l1:k+1+q≤N:=by omega
     have l2:q≤N:=by omega
     have b1:(0:Int)≤(k:Int)+1:=by omega
     have b2:(k:Int)+1≤N:=by omega
     refine zM Qv6 (zc @hltI (zc @ht (zc @hq (zc @hgt (zc @hst (zc @htk (zc @hpu (zc @A1N (zc @hlenR (zc @hfr (zc @hNt (zc @l1 (zc @l2 (zc @b1 (zc @b2 (zc @Nat.sub_zero (zc @ZY.{0} (zc @or_true (zc @true_or Qv6))))))))))))))))))) Qv6 Qv6 Qv6 (ed fun hp hpc=>?_);have e8:(k:Int)+1+(q:Int)=((k+q:Nat):Int)+1:=by omega
     have e9:k+1+q=k+q+1:=by omega
     rw [e8,e9];refine ⟨k+q,Weak.headN (pre.length+1) 48 [7,8] (by (repeat' (first | exact A0m _ | exact A0s _ | exact A0i _ | refine Qv5 ?_ ?_ | refine A0k ?_ ?_ | refine A0l ?_ ?_ | refine A0h ?_ ?_ | exact Qv4 | exact A66 hpre | (show _<_; omega) | exact A0r (fun _=>Qv4) | (intro c hc; cases hc; done) | (intro c hc; simp only [Qw,Qv,or_false] at hc; subst hc; first | exact Qv4 | exact A66 hpre | (show _<_; omega)) | (intro c hc; simp only [Qw,Qv,or_false] at hc; rcases hc with rfl | rfl<;>first | exact Qv4 | exact A66 hpre | (show _<_; omega))))),?_,?_⟩
     ·omega
     ·omega
    ·have ek:k+1=N:=by omega
     have hnl: ¬((k:Int)+1<N):=by omega
     rw [ek,C2H];refine zR (zc @hnl Qv6) Qv6 Qv6 ?_;simp [A4O,A2c,A0v,A2b,Tryz.results184]
def C7H (l:List Nat):List Int:=l.map fun x:Nat=>(x:Int)
def B0K {B:List Int} {n:Nat} (h:B.length=n) {H:List Blk} {id:Nat} (hid:H[id]? =some (.box (iC B))):A0d H (.ref id 1 0 n n)=some (.slice (A0p B)):=by
 have e:A0d H (.ref id 1 0 n n)=A0b H (.ref id 1 0 n n):=rfl;have hf:=A4N (rows:=A0p B) (k:=1) (cap:=n) (fun r hr=>A1v hr) (fun r hr=>by obtain ⟨b,_,rfl⟩:=QJ.1 hr; rfl) (by rw [A0e]; omega);rw [A7o,A0e,h] at hf;unfold A4M at hf;rw [e];simp only [A0b,hid,Blk.cells,Option.bind_some];split at hf
 ·rename_i hc;rw [if_pos hc];cases hm:(((iC B).drop 0).take (n*1)).mapM A0a with
  | none=>rw [hm] at hf; simp at hf
  | some ts=>
   rw [hm] at hf;simp only [Option.bind_some] at hf;split at hf
   ·simp at hf; simp [hf]
   ·simp at hf
 ·simp at hf
def C6x (r:R):List (List Int):=(facesR r).map C7H
def ofF (r:R) (x:Nat):Int:=ofN (fR (endsL r.es) r.ar) (2*(endsL r.es).length) (2*(endsL r.es).length) x
def C0b (r:R):List (Int×Int):=(List.range (endsL r.es).length).map fun i=>(ofF r (2*i),ofF r (2*i+1))
noncomputable def C4Q (r:R):G×Int:=A5T (facesR r).length (C0b r)
noncomputable def dualE (r:R):Int:=if ribE r≠0 then ribE r else if 12<(facesR r).length then 5 else (C4Q r).2
def C7v (O N:List Int) (x:Int):Int:=
 2*N.getD (x.toNat / 2) 0+(if O.getD (oppH x.toNat) 0<O.getD x.toNat 0∨(O.getD x.toNat 0=O.getD (oppH x.toNat) 0∧x.toNat%2=1) then 1 else 0)
def C6y (r:R):List (List Int):=(C6x r).map fun l=>C6i (l.map (C7v (B8R (2*(endsL r.es).length) (ofF r)) (C73 (C0b r))))
noncomputable def dualD (r:R):R:=if dualE r≠0 then ⟨0,[],[]⟩ else ⟨(C4Q r).1.n,(C4Q r).1.es,C6y r⟩
noncomputable def dualN (r:R):List Int:=if dualE r≠0 then [] else C73 (C0b r)
def mB (l:List Nat):List (MKey×MV):=l.map fun x:Nat=>(.int (x:Int),.c (.bool true))
def C0c: ∀(l:List Nat) (x:Nat),x∉l->mIdx (mB l) (.int x)=none
 | [],x,_=>rfl
 | y::l,x,h=>by
  have h1: ¬y=x:=fun e=>h (by simp [e]);have h2:=C0c l x (fun hm=>h (by simp [hm]));unfold mIdx at h2 ⊢;unfold mB at h2 ⊢;simp only [XQ,JJ,h2,Option.map_none];rw [if_neg];intro e;have:(MKey.int (y:Int))= .int x:=by simpa using e
  injection this with e;exact h1 (by omega)
def C6z {l:List Nat} {x:Nat} (h:x∉l) (z:MV):A7b (mB l) (.int x) z=z:=by
 unfold A7b; rw [C0c l x h]; rfl
def C60 {l:List Nat} {x:Nat} (h:x∉l):B3F (mB l) (.int x) (.c (.bool true))=mB (l++[x]):=by
 unfold B3F; rw [C0c l x h]; simp [mB]
def C4R {l:List Nat}: ∀e,e∈mB l->KShape.ok .int e.1=true:=fun e h=>by
 obtain ⟨x,_,rfl⟩:=QJ.1 h;rfl
def C1m (s:Nat->Nat) (T:List Nat) (x:Nat):Nat:=if x / 2∈T then s (oppH x) else s x
def C0d (s:Nat->Nat) {T:List Nat} {e:Nat} (he: ¬e∈T):C1m s (T++[e])=A1r (C1m s T) (2*e) (2*e+1):=by
 have e1:oppH (2*e)=2*e+1:=by unfold oppH; omega
 have e2:oppH (2*e+1)=2*e:=by unfold oppH; omega
 have d1:2*e / 2=e:=by omega
 have d2:(2*e+1) / 2=e:=by omega
 funext x;unfold A1r C1m;by_cases h1:x=2*e
 ·subst h1;rw [if_pos (by rw [d1]; simp),if_pos rfl,d2,if_neg he,e1]
 ·by_cases h2:x=2*e+1
  ·subst h2;rw [if_pos (by rw [d2]; simp),if_neg (by omega),if_pos rfl,d1,if_neg he,e2]
  ·rw [if_neg h1,if_neg h2];have h3:x / 2≠e:=by omega
   by_cases h4:x / 2∈T
   ·rw [if_pos (by simp [h4]),if_pos h4]
   ·rw [if_neg (by simp [h4,h3]),if_neg h4]
def pkN (L:List (Int×Int)) (T:List Nat):List (Int×Int):=T.map fun e=>L.getD e (0,0)
def C0e (L:List (Int×Int)) (T:List Nat):pkN L T=pkL L (T.map fun e:Nat=>(e:Int)):=by
 unfold pkN pkL;rw [VQ];exact Jy fun e _=>rfl
section
variable {E n:Nat} {L:List (Int×Int)} {s g:Nat->Nat}
def Emb.set_tour (h:Emb E n L s g) (hb: ∀x y,x<2*E->y<2*E->(A3L s x y↔g x=g y)) {T:List Nat} (hn:T.Nodup) (hT: ∀e,e∈T->e<E) (ha:acyc (pkN L T)):
  ∀k,k≤T.length->PermN (2*E) (C1m s (T.take k))∧ ∀x y,x<2*E->y<2*E->(A3L (C1m s (T.take k)) x y↔Conn (pkN L (T.take k)) (g x) (g y))
 | 0,_=>by
  have e:C1m s (T.take 0)=s:=by funext x; simp [C1m]
  rw [e];refine ⟨h.perm,fun x y hx hy=> ?_⟩;rw [hb x y hx hy];show _↔Conn [] _ _;exact B3f.symm
 | k+1,hk=>by
  obtain ⟨ih1,ih2⟩:=h.set_tour hb hn hT ha k (by omega);have hkl:k<T.length:=by omega
  have hel:=hT _ (Xk hkl);have htk:T.take (k+1)=T.take k++[T[k]]:=XZ hkl;have hne: ¬T[k]∈T.take k:=fun hm=>by
   obtain ⟨j,hj,e⟩:=List.getElem_of_mem hm;rw [YV] at hj;rw [List.getElem_take] at e;exact ZV.1 hn j k (by omega) hkl (by omega) e
  have hLe:=h.ends T[k] hel;have hpk:pkN L (T.take (k+1))=pkN L (T.take k)++[(((g (2*T[k]):Nat):Int),((g (2*T[k]+1):Nat):Int))]:=by
   rw [htk]; unfold pkN;rw [WY];simp only [XQ,ZX];rw [Qz,hLe]; rfl
  have hnc: ¬Conn (pkN L (T.take k)) (g (2*T[k])) (g (2*T[k]+1)):=by
   have hg:(pkN L T)[k]? =some (((g (2*T[k]):Nat):Int),((g (2*T[k]+1):Nat):Int)):=by
    unfold pkN;rw [QW,Qq hkl];simp only [Option.map_some];rw [Qz,hLe]; rfl
   have:=ha k _ hg;have e:(pkN L T).take k=pkN L (T.take k):=by unfold pkN; rw [List.map_take]
   rw [e] at this;simpa using this
  rw [hpk,htk,C0d s hne];generalize T[k]=e at*;have hnb: ¬A3L (C1m s (T.take k)) (2*e) (2*e+1):=fun hc=>hnc ((ih2 _ _ (by omega) (by omega)).1 hc);refine ⟨A8Y ih1 (by omega) (by omega),fun x y hx hy=> ?_⟩;rw [B8E ih1 (by omega) (by omega) hnb x y hx hy,A5c,ih2 x y hx hy,ih2 _ x (by omega) hx,ih2 _ x (by omega) hx,ih2 _ y (by omega) hy,ih2 _ y (by omega) hy]
end
end Go.Proofs.YtdbdfkohpjefjaaGreat
