/- A part of the proof. -/
import Derived.Test.YtdbdfkohpjefjaaGreatPart40
set_option linter.all false
set_option maxHeartbeats 4000000
set_option maxRecDepth 100000
namespace Go.Proofs.YtdbdfkohpjefjaaGreat
open Go.Sp
theorem B2L (l:List Int) (hne:l≠[]) (hl:l.length<2^30):ACallN Tryz.prog 157 [A0m l] 1 (A0p l):=by
 have hrn:A0p l≠[]:=by simpa [A0p] using hne
 have hrl:(A0p l).length=l.length:=A0e l;have hrk: ∀r,r∈A0p l->r.length=1:=fun r hr=>A1p hr;have hrf: ∀r,r∈A0p l->A1g r=true:=fun r hr=>by obtain ⟨x,_,rfl⟩:=QJ.1 hr; rfl
 refine ACallN.of_body Tryz.func157 rfl (by kernel_rfl) hrk (by decide) hrn hrf ?_;simp only [entry,Tryz.ntmps157,A0m,ofT,A2T,A04,Xk,Zj,List.length_cons,List.length_nil,Nat.reduceAdd,Nat.reduceSub,List.replicate_succ,List.replicate_zero,List.cons_append,List.nil_append];generalize A0p l=rows at*
 repeat' (first|((first|(refine zT ?_;intro K' hK')|(refine zG ?_ ?_<;>(try refine zH ?_)<;>intro hguard<;>(try exact zX)<;>try intro K' hK'))<;>((try simp+contextual only [go_sem,hrl,chunks,List.range,List.range.loop]);(repeat' first|(with_reducible refine hK' _ _ ?_;clear hK' K')|(exact hrn)|(with_reducible exact hrk _ (by assumption))|(exact .inr Qw7)|exact zY|with_reducible refine Qw8 ?_ ?_|(with_reducible intro hpath;try exact zP)|(refine hK' _ _ ?_;clear hK' K')|fail);try refine zS ?_))|(refine zE ?_;refine hK _ _ ?_;clear hK K)|(refine zN ?_;try refine zS ?_)|refine zA ?_|(refine zB ?_;intro K hK)|(refine zC ?_ ?_<;>(try refine zH ?_)<;>intro hcond<;>try exact zX)|fail)
 simp [C4P,Tryz.results157]
theorem C2k (n q:Nat) (es:List E) (d:List Int) (h1:1≤n) (h12:n≤12) (hd:d.length=n):
  ACallH Tryz.prog 116 [.box [.int .i64 (n:Int),.slice (A0f es) .none]] [ofT (tG ⟨(n:Int),es⟩),.c (.int .i64 (q:Int)),.c (.slice (A0p d) .none)] [.box [.int .i64 (n:Int),.slice (A0f es) .none],.ro [.int .i64 (n:Int),.slice (A0f es)],.box (iC d),.box (iC (List.replicate n 0)),.box [.int .i64 (n:Int),.slice (A0f es) .none,.int .i64 (q:Int),.ref 2 1 0 n n,.ref 3 1 0 n n,.int .i64 0]] (.c (.ptr 4 0)):=by
 have hdn:d≠[]:=by intro e; rw [e] at hd; simp at hd; omega
 have hC:ACallH Tryz.prog 157 [.box [.int .i64 (n:Int),.slice (A0f es) .none],.ro [.int .i64 (n:Int),.slice (A0f es)]] [.c (.slice (A0p d) .none)] [.box [.int .i64 (n:Int),.slice (A0f es) .none],.ro [.int .i64 (n:Int),.slice (A0f es)],.box (iC d)] (.c (.ref 2 1 0 n n)):=by
  have:=(B2L d hdn (by omega)).h (H:=[.box [.int .i64 (n:Int),.slice (A0f es) .none],.ro [.int .i64 (n:Int),.slice (A0f es)]]) (args:=[.c (.slice (A0p d) .none)]) (by with_unfolding_all rfl);rw [A7b,A0e,hd] at this;exact this
 have hC2:ACallH Tryz.prog 157 [.box [.int .i64 (n:Int),.slice (A0f es) .none],.ro [.int .i64 (n:Int),.slice (A0f es)],.box (iC (List.replicate n 0))] [.c (.slice (A0p d) .none)] [.box [.int .i64 (n:Int),.slice (A0f es) .none],.ro [.int .i64 (n:Int),.slice (A0f es)],.box (iC (List.replicate n 0)),.box (iC d)] (.c (.ref 3 1 0 n n)):=by
  have:=(B2L d hdn (by omega)).h (H:=[.box [.int .i64 (n:Int),.slice (A0f es) .none],.ro [.int .i64 (n:Int),.slice (A0f es)],.box (iC (List.replicate n 0))]) (args:=[.c (.slice (A0p d) .none)]) (by with_unfolding_all rfl);rw [A7b,A0e,hd] at this;exact this
 have hsw: ∀l:List Int,(iC l).mapM (A83 2 3)=some (iC l):=fun l=>by
  induction l with
  | nil=>rfl
  | cons x l ih=>
   unfold iC at ih ⊢;rw [Xk,JX,ih]; rfl
 simp only [tG,ofT,A2T,A04,Xk,Zj];refine ACallE.swapTo (H2:=[.box [.int .i64 (n:Int),.slice (A0f es) .none],.ro [.int .i64 (n:Int),.slice (A0f es)],.box (iC (List.replicate n 0)),.box (iC d),.box [.int .i64 (n:Int),.slice (A0f es) .none,.int .i64 (q:Int),.ref 3 1 0 n n,.ref 2 1 0 n n,.int .i64 0]]) (c2:= .ptr 4 0) ?_ 2 3 (by show 1≤2; decide) (by show 1≤3; decide) (by show 2<5; decide) (by show 3<5; decide) rfl (fun id hid=> ?_) rfl
 ·refine ACallE.of_body Tryz.func116 rfl (by kernel_rfl) ?_;simp only [entry,Tryz.ntmps116,List.length_cons,List.length_nil,Nat.reduceAdd,Nat.reduceSub,List.replicate_succ,List.replicate_zero,List.cons_append,List.nil_append];refine zJ (stop 1) trivial trivial trivial trivial ?_;refine AWp.freezeP 3 1 rfl rfl (ts:=[.int .i64 (n:Int),.slice (A0f es)]) rfl ?_;simp only [List.set_cons_succ,List.set_cons_zero];refine AWp.seq_draw2c (wd:= .loud) 1 3 3 6 (by decide+kernel) (fun K hK=> ?_) (fun K hK=> ?_)
  ·
   repeat' (first|((refine zT ?_;intro K' hK')<;>((try simp+contextual only [go_sem,A1P,Int.toNat_natCast,Yj,Xy]);(repeat' first|(with_reducible refine hK' _ _ ?_;clear hK' K')|((with_reducible first|refine ⟨_,_,hC,?_⟩|refine ⟨_,hC,?_⟩);try simp+contextual only [go_sem,A1P,Int.toNat_natCast,Yj,Xy])|exact zY|with_reducible refine Qw8 ?_ ?_|(with_reducible intro hpath;try exact zP)|(refine hK' _ _ ?_;clear hK' K')|fail);try refine zS ?_))|(refine zE ?_;refine hK _ _ ?_;clear hK K)|refine zA ?_|fail)
   simp [C3j,A1Y,A0s,A1X,Tryz.results116]
  ·
   simp only [C3l,C49,List.take_succ_cons,List.take_zero,Zw,ZW,List.cons_append,List.nil_append,Nat.reduceMul]
   repeat' (first|((refine zT ?_;intro K' hK')<;>((try simp+contextual only [go_sem,A1P,Int.toNat_natCast,Yj,Xy]);(repeat' first|(with_reducible refine hK' _ _ ?_;clear hK' K')|((with_reducible first|refine ⟨_,_,hC2,?_⟩|refine ⟨_,hC2,?_⟩);try simp+contextual only [go_sem,A1P,Int.toNat_natCast,Yj,Xy])|exact zY|with_reducible refine Qw8 ?_ ?_|(with_reducible intro hpath;try exact zP)|(refine hK' _ _ ?_;clear hK' K')|fail);try refine zS ?_))|(refine zE ?_;refine hK _ _ ?_;clear hK K)|refine zA ?_|fail)
   simp [C3j,A1Y,A0s,A1X,Tryz.results116]
 ·simp only [List.length_cons,List.length_nil,Nat.reduceAdd] at hid
  match id,hid with
  | 0,_=>exact .inl ⟨_,_,rfl,rfl,rfl⟩
  | 1,_=>exact .inr ⟨_,rfl,rfl⟩
  | 2,_=>exact .inl ⟨_,_,rfl,hsw _,rfl⟩
  | 3,_=>exact .inl ⟨_,_,rfl,hsw _,rfl⟩
  | 4,_=>exact .inl ⟨_,_,rfl,rfl,rfl⟩
theorem C0f (n q:Nat) (es:List E) (d:List Int) (hq:q<n) (hd:d.length=n) (h1:1≤n) (h12:n≤12) (hl:es.length<2^30) (hc:checkG ⟨(n:Int),es⟩=0) (hcc:connB ⟨(n:Int),es⟩=true) (hb:bndL 1048576 d):ACall Tryz.prog 115 [tG ⟨(n:Int),es⟩,A0k q,A0m d] (A0k 0):=by
 have hC:ACall Tryz.prog 129 [tG ⟨(n:Int),es⟩] (.tup [A0z true,A0k 0]):=by
  have:=A36 ⟨(n:Int),es⟩ hl;rw [hc,hcc] at this;exact this
 have hChk:=A6E d n h1 h12 hd hb;have h0: ¬((q:Int)<0):=by omega
 have h2: ¬((q:Int)≥(n:Int)):=by omega
 refine ACall.of_body Tryz.func115 rfl (by kernel_rfl) ?_;simp only [entry,Tryz.ntmps115,tG,A0k,A0m];refine zU ?_;refine zR (zc @h0 (zc @h2 Qw9)) (zc hC (zc hChk Qw9)) Qw9 ?_;simp [A0y,A0x,Blk.cells,ty,Tryz.results115,A0s,A0t,toT,A0d,A0b,A0c,A0a,A0k]
section
variable {n:Nat} {es:List E}
end
structure Gok (n:Nat) (es:List E):Prop where
 h1:1≤n
 h12:n≤12
 hl:es.length≤40
 hE:EsOk n es
 hm1: ∀e,e∈es->1≤e.m
 hM:Mult n (mulE es)
 hc:checkG ⟨(n:Int),es⟩=0
 hcc:connB ⟨(n:Int),es⟩=true
structure Dok (n:Nat) (es:List E) (d:List Int):Prop where
 len:d.length=n
 bnd: ∃B C P:Int,0≤B∧bndL B d∧B≤C∧(∀q far,q<n->BFq es n q far []->powF (levF es far) B (n-1)≤C)∧sumR (fun v=>max 0 (d.getD v 0)) n≤P∧C+P≤1048576∧C+n*P≤1048576
theorem C2M (ls:List (List Int)) (n:Nat) (h1:1≤n) (h12:n≤12) (hll:ls.length<2^20) (hls: ∀d,d∈ls->d.length=n∧bndL 1048576 d):ACall Tryz.prog 112 [.t (.slice (A00 ls))] (A0k 0):=by
 refine ACall.of_body Tryz.func112 rfl (by kernel_rfl) ?_;simp only [entry,Tryz.ntmps112,A0k];refine zU ?_;refine zJ (stop 2) (zc @A0o Qw9) Qw9 Qw9 Qw9 ?_;refine AWp.loopS (α:=Nat) 36 (fun i=>[(0,.c (.slice (A00 ls) .none)),(8,.c (.slice (A00 ls) .none)),(9,.c (.int .i64 (ls.length:Int))),(10,.c (.int .i64 (i:Int)))]) (fun i=>[]) (fun i=>i≤ls.length) (fun i=>ls.length-i) (0) (hk:=Weak.headL 0 36 [0,8,9,10] (zV3 @A1e @A0F @A0G)) (h0:=?_) (round:=fun i hI=>?_)
 ·exact Xj _
 ·have hi:i≤ls.length:=hI;clear hI;by_cases hil:i<ls.length
  ·have hiI:(i:Int)<(ls.length:Int):=by omega
   have hge:=Qq hil;have hg:=A0W hge;obtain ⟨d1,d2⟩:=hls _ (Qy hge);generalize ls[i]=d at*;have hC:=A6E d n h1 h12 d1 d2;refine zR (zc @hiI (zc @hg (zc @A0o (zc @A0e (zc @d1 (zc @Xy Qw9)))))) (zc hC Qw9) Qw9 ?_;refine ⟨i+1,Weak.headN 0 36 [0,8,9,10] (zV3 @A1e @A0F @A0G),?_,?_⟩
   ·exact hil
   ·omega
  ·have hnl: ¬(i:Int)<(ls.length:Int):=by omega
   refine zJ (stop 9) (zc @hnl (zc @A0o Qw9)) Qw9 Qw9 Qw9 ?_;refine AWp.loopS (α:=Nat) 36 (fun j=>[(0,.c (.slice (A00 ls) .none)),(22,.c (.slice (A00 ls) .none)),(23,.c (.int .i64 (ls.length:Int))),(24,.c (.int .i64 (j:Int)))]) (fun j=>[]) (fun j=>j≤ls.length) (fun j=>ls.length-j) (0) (hk:=Weak.headL 0 36 [0,22,23,24] (zV3 @A1e @A0F @A0G)) (h0:=?_) (round:=fun j hI=>?_)
   ·exact Xj _
   ·have hj:j≤ls.length:=hI;clear hI;by_cases hjl:j<ls.length
    ·have hjI:(j:Int)<(ls.length:Int):=by omega
     have h0I:(0:Int)<(ls.length:Int):=by omega
     have hge:=Qq hjl;have hg:=A0W hge;have hge0:=Qq (show 0<ls.length by omega);have hg0:=A0W hge0;obtain ⟨d1,d2⟩:=hls _ (Qy hge);obtain ⟨d3,d4⟩:=hls _ (Qy hge0);generalize ls[j]=d at*;generalize ls[0]=d0 at*;refine zR (zc @hjI (zc @h0I (zc @hg (zc @hg0 (zc @A0o (zc @A0e (zc @d1 (zc @d3 (zc @Int.toNat_zero (zc @Xy Qw9)))))))))) Qw9 Qw9 ?_;refine ⟨j+1,Weak.headN 0 36 [0,22,23,24] (zV3 @A1e @A0F @A0G),?_,?_⟩
     ·exact hjl
     ·omega
    ·have hnl2: ¬(j:Int)<(ls.length:Int):=by omega
     refine zR (zc @hnl2 Qw9) Qw9 Qw9 ?_;simp [A0y,A0x,Blk.cells,ty,Tryz.results112,A0s,A0t,toT,A0d,A0b,A0c,A0a,A0k]
theorem B1l {d:List Int} {K:Int} (h:bndL K d): ∀i:Nat,-(K*i)≤sumR (fun v=>d.getD v 0) i∧sumR (fun v=>d.getD v 0) i≤K*i
 | 0=>by simp [sumR]
 | i+1=>by
  have h1:=B1l h i;have h2:=h i;have e:K*((i+1:Nat):Int)=K*i+K:=by rw [Int.natCast_add,Int.mul_add]; simp
  simp only [sumR];omega
def A91 (d:List Int) (n:Nat):Int:=sumR (fun v=>d.getD v 0) n
theorem B6V (d:List Int) (n:Nat) (h1:1≤n) (h12:n≤12) (hd:d.length=n) (hb:bndL 1048576 d):ACall Tryz.prog 71 [A0m d] (.tup [A0k (A91 d n),A0k 0]):=by
 have hO:=C2M [d] n h1 h12 (by show 1<2^20; decide) (fun x hx=>by rw [Zz] at hx; subst hx; exact ⟨hd,hb⟩);have e0:A91 d 0=0:=rfl;simp only [A00,Xk,Zj] at hO;refine ACall.of_body Tryz.func71 rfl (by kernel_rfl) ?_;simp only [entry,Tryz.ntmps71,A0m];refine zU ?_
 repeat' ((fail_if_success (with_reducible refine AWp.atSeq 6 ?_));(fail_if_success (with_reducible refine AWp.atLast 6 ?_));first|((first|(refine zT ?_;intro K' hK')|(refine zG ?_ ?_<;>(try refine zH ?_)<;>intro hguard<;>(try exact zX)<;>try intro K' hK'))<;>((try simp+contextual only [go_sem,A0e,hd,List.length_cons,List.length_nil,chunks,List.range,List.range.loop]);(repeat' first|(with_reducible refine hK' _ _ ?_;clear hK' K')|(with_reducible refine zK hO ?_;try simp+contextual only [go_sem,A0e,hd,List.length_cons,List.length_nil,chunks,List.range,List.range.loop])|exact zY|with_reducible refine Qw8 ?_ ?_|(with_reducible intro hpath;try exact zP)|(refine hK' _ _ ?_;clear hK' K')|fail);try refine zS ?_))|(refine zE ?_;refine hK _ _ ?_;clear hK K)|(refine zN ?_;try refine zS ?_)|refine zA ?_|(refine zB ?_;intro K hK)|(refine zC ?_ ?_<;>(try refine zH ?_)<;>intro hcond<;>try exact zX)|fail)
 refine AWp.loopS (α:=Nat) 25 (fun i=>[(5,.c (.int .i64 (A91 d i))),(14,.c (.slice (A0p d) .none)),(15,.c (.int .i64 (n:Int))),(16,.c (.int .i64 (i:Int)))]) (fun i=>[]) (fun i=>i≤n) (fun i=>n-i) (0) (hk:=Weak.headL 0 25 [5,14,15,16] (zV3 @A1e @A0F @A0G)) (h0:=?_) (round:=fun i hI=>?_)
 ·exact Xj _
 ·have hi:i≤n:=hI;clear hI;by_cases hil:i<n
  ·have hiI:(i:Int)<(n:Int):=by omega
   have hg:=A0u (A1t (d:=d) (i:=i) (by omega));have hx:=hb i;have hs: -(1048576*i)≤A91 d i∧A91 d i≤1048576*i:=B1l hb i;have hnx:A91 d (i+1)=A91 d i+d.getD i 0:=rfl;generalize hN1:A91 d (i+1)=N1 at*;generalize A91 d i=N0 at*;generalize d.getD i 0=x at*;refine zR (zc @hiI (zc @hg (zc @A0e (zc @hd (zc @Xy Qw9))))) Qw9 Qw9 ?_;refine ⟨i+1,Weak.headF 0 25 [5,14,15,16] (zc @hN1 (zc @hnx Qw9)) (zV3 @A1e @A0F @A0G),?_,?_⟩
   ·exact hil
   ·omega
  ·have hnl: ¬(i:Int)<(n:Int):=by omega
   have ei:i=n:=by omega
   rw [ei];rw [ei] at hnl;refine zR (zc @hnl Qw9) Qw9 Qw9 ?_;simp [A0y,A0x,Blk.cells,ty,Tryz.results71,A0s,A0t,toT,A0d,A0b,A0c,A0a,A0k]
def B1s (a b:List Int) (n i:Nat):List Int:=(List.range n).map fun v=>if v<i then a.getD v 0+b.getD v 0 else 0
theorem A7W (a b:List Int) (n i:Nat):(B1s a b n i).length=n:=by simp [B1s]
theorem B52 (a b:List Int) (n i v:Nat):(B1s a b n i)[v]? =if v<n then some (if v<i then a.getD v 0+b.getD v 0 else 0) else none:=by
 unfold B1s;rw [QY];by_cases h:v<n
 ·rw [if_pos h,Yv h]; rfl
 ·rw [if_neg h,Xq (by simpa using h)]; rfl
theorem C2l (a b:List Int) {n i:Nat} (hi:i<n):(B1s a b n i).set i (a.getD i 0+b.getD i 0)=B1s a b n (i+1):=by
 apply Zx;intro j;rw [Qw5,A7W,B52,B52];by_cases e:i=j
 ·subst e;rw [if_pos rfl,if_pos hi,if_pos hi,if_pos (by omega)]
 ·rw [if_neg e];by_cases h:j<n
  ·rw [if_pos h,if_pos h];by_cases h2:j<i
   ·rw [if_pos h2,if_pos (by omega)]
   ·rw [if_neg h2,if_neg (by omega)]
  ·rw [if_neg h,if_neg h]
theorem C0g (a b:List Int) (n:Nat):B1s a b n 0=List.replicate n 0:=by
 apply Qz8
 ·simp [B1s]
 ·intro i h1 h2; simp [B1s]
theorem C4v (x y:Int) (h: -(2^40)≤x∧x≤2^40) (h': -(2^40)≤y∧y≤2^40):ACall Tryz.prog 114 [A0k x,A0k y] (A0k (x+y)):=by
 refine ACall.of_body Tryz.func114 rfl (by kernel_rfl) ?_;simp only [entry,Tryz.ntmps114,A0k];refine zU ?_;refine zR Qw9 Qw9 Qw9 ?_;simp [A0y,A0x,Blk.cells,ty,Tryz.results114,A0s,A0t,toT,A0d,A0b,A0c,A0a,A0k]
theorem C0h (a b:List Int) (n:Nat) (h1:1≤n) (h12:n≤12) (ha:a.length=n) (hb:b.length=n) (ha1:bndL 1048576 a) (hb1:bndL 1048576 b) (hs: ∀v,v<n-> -1048576≤a.getD v 0+b.getD v 0∧a.getD v 0+b.getD v 0≤1048576):
  ACallH Tryz.prog 113 [] [.c (.slice (A0p a) .none),.c (.slice (A0p b) .none),.c (.fn 114 [])] [.box (iC (B1s a b n n))] (.tup [.c (.ref 0 1 0 n n),.c (.int .i64 0)]):=by
 have hO:=C2M [a,b] n h1 h12 (by show 2<2^20; decide) (fun x hx=>by
  simp only [Qw,Qk,or_false] at hx;rcases hx with rfl | rfl
  ·exact ⟨ha,ha1⟩
  ·exact ⟨hb,hb1⟩)
 simp only [A00,Xk,Zj] at hO;have hnI:(0:Int)≤(n:Int):=by omega
 refine ACallH.of_body Tryz.func113 rfl (by kernel_rfl) ?_;simp only [entry,Tryz.ntmps113,List.length_cons,List.length_nil,Nat.reduceAdd,Nat.reduceSub,List.replicate_succ,List.replicate_zero,List.cons_append,List.nil_append]
 repeat' ((fail_if_success (with_reducible refine AWp.atSeq 6 ?_));(fail_if_success (with_reducible refine AWp.atLast 6 ?_));first|((first|(refine zT ?_;intro K' hK')|(refine zG ?_ ?_<;>(try refine zH ?_)<;>intro hguard<;>(try exact zX)<;>try intro K' hK'))<;>((try simp+contextual only [go_sem,A0e,ha,A1P,A12,Yx,Int.toNat_natCast,Yj,Xy,List.length_cons,List.length_nil,chunks,List.range,List.range.loop]);(repeat' first|(with_reducible refine hK' _ _ ?_;clear hK' K')|(with_reducible refine zK hO ?_;try simp+contextual only [go_sem,A0e,ha,A1P,A12,Yx,Int.toNat_natCast,Yj,Xy,List.length_cons,List.length_nil,chunks,List.range,List.range.loop])|exact zY|with_reducible refine Qw8 ?_ ?_|(with_reducible intro hpath;try exact zP)|(refine hK' _ _ ?_;clear hK' K')|fail);try refine zS ?_))|(refine zE ?_;refine hK _ _ ?_;clear hK K)|(refine zN ?_;try refine zS ?_)|refine zA ?_|(refine zB ?_;intro K hK)|(refine zC ?_ ?_<;>(try refine zH ?_)<;>intro hcond<;>try exact zX)|fail)
 rw [<-C0g a b n];refine AWp.loopS (α:=Nat) 47 (fun i=>[(0,.c (.slice (A0p a) .none)),(1,.c (.slice (A0p b) .none)),(2,.c (.fn 114 [])),(9,.c (.ref 0 1 0 n n)),(22,.c (.int .i64 (n:Int))),(23,.c (.int .i64 (i:Int)))]) (fun i=>[.box (iC (B1s a b n i))]) (fun i=>i≤n) (fun i=>n-i) (0) (hk:=Weak.headL 1 47 [0,1,2,9,22,23] (zV3 @A1e @A0F @A0G)) (h0:=?_) (round:=fun i hI=>?_)
 ·exact Xj _
 ·have hi:i≤n:=hI;clear hI;by_cases hil:i<n
  ·have hiI:(i:Int)<(n:Int):=by omega
   have ga:=A0u (A1t (d:=a) (i:=i) (by omega));have gb:=A0u (A1t (d:=b) (i:=i) (by omega));have hF:=C4v (a.getD i 0) (b.getD i 0) (by have:=ha1 i; omega) (by have:=hb1 i; omega);have hw:=B0v (a.getD i 0+b.getD i 0) (hs i hil);have hns:=C2l a b hil;have hnl:=A7W a b n i;have hst:=A9V (B1s a b n i) i (a.getD i 0+b.getD i 0);rw [hns] at hst;have hl1:=A7W a b n (i+1);have hg2:(iC (B1s a b n (i+1)))[i]? =some (.int .i64 (a.getD i 0+b.getD i 0)):=by rw [<-hst]; exact QW (by rw [A12,hnl]; exact hil)
   clear hns hs ha1 hb1 hO;generalize hn1:B1s a b n (i+1)=N1 at*;generalize B1s a b n i=N0 at*;generalize a.getD i 0=x at*;generalize b.getD i 0=y at*;refine zR (zc @hiI (zc @ga (zc @gb (zc @hst (zc @hg2 (zc @hnl (zc @hl1 (zc @A12 (zc @A0e (zc @ha (zc @hb (zc @Xy Qw9)))))))))))) (zc hF (zc hw Qw9)) Qw9 ?_;refine ⟨i+1,Weak.headF 1 47 [0,1,2,9,22,23] (zc @hn1 Qw9) (zV3 @A1e @A0F @A0G),?_,?_⟩
   ·exact hil
   ·omega
  ·have hnl: ¬(i:Int)<(n:Int):=by omega
   have ei:i=n:=by omega
   rw [ei];rw [ei] at hnl;refine zR (zc @hnl Qw9) Qw9 Qw9 ?_;simp [A4D,A1Y,A0s,A1X,Tryz.results113]
theorem C5A (a b:List Int) (n:Nat) (h1:1≤n) (h12:n≤12) (ha:a.length=n) (hb:b.length=n) (ha1:bndL 1048576 a) (hb1:bndL 1048576 b) (hs: ∀v,v<n-> -1048576≤a.getD v 0+b.getD v 0∧a.getD v 0+b.getD v 0≤1048576):
  ACall Tryz.prog 72 [A0m a,A0m b] (.tup [A0m (B1s a b n n),A0k 0]):=by
 have hE:=C0h a b n h1 h12 ha hb ha1 hb1 hs;have hl:=A7W a b n n;generalize B1s a b n n=d at*;have hbi: ∀(H:List Blk) (k:IntKind) (x:Int),A0d H (.int k x)=some (.int k x):=fun _ _ _=>rfl;have hr0:A0d [.box (iC d)] (.ref 0 1 0 n n)=some (.slice (A0p d)):=B0o hl rfl;refine ACall.of_body Tryz.func72 rfl (by kernel_rfl) ?_;simp only [entry,Tryz.ntmps72,A0m];refine zU ?_;refine zJ Qw9 Qw9 Qw9 (zc hE Qw9) Qw9 ?_;simp [A0y,A0x,Tryz.results72,A0s,A0t,toT,hr0,hbi,A0m,A0k]
theorem C2m (d:List Int) {n:Nat} (hd:d.length=n) (hn:n≤100) (hb:bndL (2^40) d):ACall Tryz.prog 32 [A0m d] (A0k (A91 d n)):=by
 have e0:A91 d 0=0:=rfl;refine ACall.of_body Tryz.func32 rfl (by kernel_rfl) ?_;simp only [entry,Tryz.ntmps32,A0m];refine zU ?_;refine zR Qw9 Qw9 Qw9 ?_;refine AWp.loopS (α:=Nat) 18 (fun i=>[(0,.c (.slice (A0p d) .none)),(3,.c (.int .i64 (A91 d i))),(4,.c (.int .i64 (i:Int)))]) (fun i=>[]) (fun i=>i≤n) (fun i=>n-i) (0) (hk:=Weak.headL 0 18 [0,3,4] (zV2 @A1e @A0F)) (h0:=?_) (round:=fun i hI=>?_)
 ·exact Xj _
 ·have hi:i≤n:=hI;clear hI;by_cases hil:i<n
  ·have hiI:(i:Int)<(n:Int):=by omega
   have hg:=A0u (A1t (d:=d) (i:=i) (by omega));have hx:=hb i;have hs: -(2^40*i)≤A91 d i∧A91 d i≤2^40*i:=B1l hb i;have hnx:A91 d (i+1)=A91 d i+d.getD i 0:=rfl;generalize hN1:A91 d (i+1)=N1 at*;generalize A91 d i=N0 at*;generalize d.getD i 0=x at*;refine zR (zc @hiI (zc @hg (zc @A0e (zc @hd (zc @Xy Qw9))))) Qw9 Qw9 ?_;refine ⟨i+1,Weak.headF 0 18 [0,3,4] (zc @hN1 (zc @hnx Qw9)) (zV2 @A1e @A0F),?_,?_⟩
   ·exact hil
   ·omega
  ·have hnl: ¬(i:Int)<(n:Int):=by omega
   have ei:i=n:=by omega
   rw [ei];rw [ei] at hnl;refine zR (zc @hnl (zc @A0e (zc @hd Qw9))) Qw9 Qw9 ?_;simp [A0y,A0x,Blk.cells,ty,Tryz.results32,A0s,A0t,toT,A0d,A0b,A0c,A0a,A0k]
end Go.Proofs.YtdbdfkohpjefjaaGreat
