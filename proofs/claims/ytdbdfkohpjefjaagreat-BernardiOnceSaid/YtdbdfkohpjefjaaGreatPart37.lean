/- A part of the proof. -/
import Derived.Test.YtdbdfkohpjefjaaGreatPart34
set_option linter.all false
set_option maxHeartbeats 4000000
set_option maxRecDepth 100000
namespace Go.Proofs.YtdbdfkohpjefjaaGreat
open Go.Sp
theorem C4n (n:Nat) (hn2:2≤n) (hn:n≤12) (L:List (Int×Int)) (hL:InN n L) (hLl:L.length<2^20) (l:Nat) (xs:List (List TVal)) (J:Nat->Sig->World->Prop) (Jx:Sig->World->Prop) (hJ: ∀k,Clo (J k)) (hJx:Clo Jx)
  (hY: ∀k ts,xs[k]? =some ts->YStep Tryz.prog l (J k) ts (J (k+1)) Jx):
  ∀ (fuel:Nat) (t:List Nat) (e:Nat) (F:List Nat) (k0:Nat) (H1:List Blk) (j cap:Nat),e+fuel=L.length->TDe n (pkN L t) F->A4t (pkN L t)->(∀x,x∈t->x<L.length)->t.length+1≤n->
   (∀i T,(A17 n L fuel t e)[i]? =some T->xs[k0+i]? =some [A5S T])->GH l n L H1->GV t j cap H1->j<H1.length->t.length≤cap->
   ACallE Tryz.prog 126 (.ghost (J k0)::H1) ([.c (.vec (j+1) t.length cap),.c (.int .i64 (e:Int)),.agg (fC F)]++(growCaps n L).map A42)
    (fun H' r=>(r= .c (.bool true)∧H'= .ghost (J (k0+(A17 n L fuel t e).length))::H1)∨(r= .c (.bool false)∧H'= .ghost Jx::H1)):=by
 intro fuel
 induction fuel using Nat.strongRecOn with
 | ind fuel ih=>
 intro t e F k0 H1 j cap hef hF hac htL htn hxs hG hV hj hcap;have hfl:F.length=12:=by obtain ⟨_,_,h⟩:=hF; exact h.tc.tf.len
 have htk: ∀(G:Blk) (X:List Blk),(G::(H1++X)).take (H1.length+1)=G::H1:=fun G X=>by simp
 refine (ACallE.trim (H1.length+1) (R:=GR J Jx (k0+(A17 n L fuel t e).length) H1) ?_ (by simp) ?_).mono ?_;rotate_left
 ·rintro H2 r ⟨X,⟨rfl,rfl⟩ | ⟨rfl,rfl⟩⟩<;>
  ·refine ⟨?_,trivial⟩;rw [htk];intro b hb;rcases Qw.1 hb with rfl | hb
   ·trivial
   ·exact hG.inn b hb
 ·rintro H' r ⟨H2,⟨X,⟨rfl,rfl⟩ | ⟨rfl,rfl⟩⟩,rfl⟩
  ·rw [htk]; exact .inl ⟨rfl,rfl⟩
  ·rw [htk]; exact .inr ⟨rfl,rfl⟩
 refine ACallE.of_body Tryz.func126 rfl (by kernel_rfl) ?_;simp only [entry,growCaps,A42,A04,Xk,Zj,Tryz.ntmps126,List.length_cons,List.length_nil,Nat.reduceAdd,Nat.reduceSub,List.replicate_succ,List.replicate_zero,List.cons_append,List.nil_append];by_cases hfull:t.length+1=n
 ·have hI:(t.length:Int)=(n:Int)-1:=by omega
  have hne:t≠[]:=fun h=>by rw [h] at hfull; simp at hfull; omega
  have hpos:0<t.length:=Ww.2 hne;obtain ⟨h2j,hVj⟩:=hV.resolve_left fun h=>hne h.2;have hGe:=(B0s (L:=L) (fuel:=fuel) (e:=e) hfull);rw [hGe] at hxs ⊢;have hx0:=hxs 0 t rfl;rw [Nat.add_zero] at hx0;have hCl:=B94 (t.map fun x:Nat=>(x:Int)) (by simpa using hne) (by rw [Zq]; omega);have hbor:A0b (.ghost (J k0)::(H1++[.box (fC F)])) (.ref (j+1) 1 0 t.length t.length)=some (.slice (A0p (t.map fun x:Nat=>(x:Int)))):=
   C4e (by rw [List.getElem?_cons_succ,Qv hj]; exact hVj)
  have hC:ACallH Tryz.prog 127 (.ghost (J k0)::(H1++[.box (fC F)])) [.c (.ref (j+1) 1 0 t.length t.length)] (.ghost (J k0)::(H1++[.box (fC F)])) (ofT (A5S t)):=
   ACallX.h0 (ts:=[A5S t]) hCl (by simp only [JX,List.mapM_nil,toT,A0d,hbor,Option.map_some]; rfl)
  have hy:=hG.yld [.box (fC F)];refine zJ (stop 2) (zc @hI (zc @A0V (zc @hfl Qw9))) Qw9 Qw9 Qw9 ?_;refine AWp.weak (Weak.vecSee 0 (j+1) t.length cap rfl hpos hcap) ?_;simp only [List.set_cons_zero];refine AWp.seq (AWp.of_adr (by kernel_rfl) ?_);refine ADr.seg' 3 2 [(18,.c (.yld l)),(19,.c (.ref (j+1) 1 0 t.length t.length))] (by kernel_rfl) (by kernel_rfl) rfl (.inl ⟨rfl,(A2V _ _ _ rfl 127 [] rfl _ hC).n⟩) (zQ hy) (by rintro r H' ⟨rfl,rfl⟩; exact zQ hy) ?_;rintro r H' ⟨rfl,rfl⟩;simp only [A1d,A1f,aeval,YQ,Yy,List.set_cons_succ,List.set_cons_zero];refine ADr.one' (by kernel_rfl) rfl (.inl ⟨rfl,A9E (ts:=[A5S t]) rfl rfl rfl (okF hG.ok hfl) (hY k0 _ hx0) (hJ _) hJx⟩) ?_;rintro r H' (⟨rfl,rfl⟩ | ⟨rfl,rfl⟩)
  ·
   simp only [A1d,A1f,aeval,YQ,Yy,List.set_cons_succ,List.set_cons_zero];refine ADr.run 1 (by kernel_rfl) (by decide) (fun K hK=> ?_);simp only [Nat.reduceAdd,Zw,ZW,List.take_succ_cons,List.take_zero]
   repeat' (first|((first|(refine zT ?_;intro K' hK')|(refine zG ?_ ?_<;>(try refine zH ?_)<;>intro hguard<;>(try exact zX)<;>try intro K' hK'))<;>((try simp+contextual only [go_sem]);(repeat' first|(with_reducible refine hK' _ _ ?_;clear hK' K')|exact zY|with_reducible refine Qw8 ?_ ?_|(with_reducible intro hpath;try exact zP)|(refine hK' _ _ ?_;clear hK' K')|fail);try refine zS ?_))|(refine zE ?_;refine hK _ _ ?_;clear hK K)|(refine zN ?_;try refine zS ?_)|fail)
   try simp only [Nat.reduceAdd]
   refine ADr.done (by decide) ?_;refine zR Qw9 Qw9 Qw9 ?_;exact ⟨trivial,_,⟨_,.inl ⟨rfl,rfl⟩⟩,by simp [A1Y,A0s,A1X,Tryz.results126]⟩
  ·
   simp only [A1d,A1f,aeval,YQ,Yy,List.set_cons_succ,List.set_cons_zero];refine ADr.run 1 (by kernel_rfl) (by decide) (fun K hK=> ?_);simp only [Nat.reduceAdd,Zw,ZW,List.take_succ_cons,List.take_zero]
   repeat' (first|((first|(refine zT ?_;intro K' hK')|(refine zG ?_ ?_<;>(try refine zH ?_)<;>intro hguard<;>(try exact zX)<;>try intro K' hK'))<;>((try simp+contextual only [go_sem]);(repeat' first|(with_reducible refine hK' _ _ ?_;clear hK' K')|exact zY|with_reducible refine Qw8 ?_ ?_|(with_reducible intro hpath;try exact zP)|(refine hK' _ _ ?_;clear hK' K')|fail);try refine zS ?_))|(refine zE ?_;refine hK _ _ ?_;clear hK K)|(refine zN ?_;try refine zS ?_)|fail)
   try simp only [Nat.reduceAdd]
   refine ADr.done (by decide) ?_;refine zR Qw9 Qw9 Qw9 ?_;exact ⟨trivial,_,⟨_,.inr ⟨rfl,rfl⟩⟩,by simp [A1Y,A0s,A1X,Tryz.results126]⟩
 ·have hI: ¬((t.length:Int)=(n:Int)-1):=by omega
  refine zJ (stop 2) (zc @hI (zc @A0V (zc @hfl Qw9))) Qw9 Qw9 Qw9 ?_;have hL0:L.length-e=fuel:=by omega
  have htk12:(fC F).take 12=fC F:=ZJ (by rw [A0V,hfl]; exact QQ _);refine AWp.loopS (α:=(Nat×Nat)) 55 (fun s=>[(0,.c (.vec (j+1) t.length cap)),(3,.c (.rptr [.int .i64 (n:Int)])),(5,.c (.rptr [.slice (A1c L)])),(6,.c (.ptr 2 0)),(9,.c (.ptr (H1.length+1) 0)),(10,.c (.bool false)),(11,.c (.int .i64 (s.1:Int)))]) (fun s=>.ghost (J s.2)::(H1++[.box (fC F)])) (fun s=>e≤s.1∧s.1≤L.length∧s.2+(A17 n L (L.length-s.1) t s.1).length=k0+(A17 n L fuel t e).length∧(∀i T,(A17 n L (L.length-s.1) t s.1)[i]? =some T->xs[s.2+i]? =some [A5S T])) (fun s=>L.length-s.1) ((e,k0)) (hk:=Weak.headL (H1.length+2) 55 [0,3,5,6,9,10,11] (by (repeat' (first | exact A0n _ | exact A0v _ | exact A0i _ | refine Qw8 ?_ ?_ | refine A0j ?_ ?_ | refine A0l ?_ ?_ | refine A0g ?_ ?_ | exact Qw7 | exact inF (by assumption) _ | exact A0Z | (show _<_; omega) | exact A0q (fun _=>Qw7) | (intro c hc; cases hc; done) | (intro c hc; simp only [Qw,Qk,or_false] at hc; subst hc; first | exact Qw7 | exact inF (by assumption) _ | exact A0Z | (show _<_; omega)) | (intro c hc; simp only [Qw,Qk,or_false] at hc; rcases hc with rfl | rfl<;>first | exact Qw7 | exact inF (by assumption) _ | exact A0Z | (show _<_; omega)))))) (h0:=?_) (round:=fun s hI=>?_)
  ·exact ⟨QQ _,by omega,by rw [hL0],by rw [hL0]; exact hxs⟩
  ·obtain ⟨a,k⟩:=s;obtain ⟨ha1,ha2,hcnt,hxa⟩:=hI;simp only at ha1 ha2 hcnt hxa ⊢;by_cases hlt:a<L.length
   ·have hltI:(a:Int)<L.length:=by omega
    have hcn:=B4b n hn (pkN L t) (L.drop a) F hF (B92 hL htL) (fun p hp=>hL p (List.mem_of_mem_drop hp)) (by rw [List.length_drop]; omega);have hdr:(A1c L).drop a=A1c (L.drop a):=by simp [A1c]
    have eA: ∀X:List Blk,(H1++X)[H1.length]? =X[0]? :=fun X=>by rw [QV (QQ _),JQ]
    have eB: ∀X:List Blk,(H1++X)[H1.length+1]? =X[1]? :=fun X=>by rw [QV (by omega)]; congr 1; omega
    have htp:(A1c L).take L.length=A1c L:=ZJ (by rw [A02]; exact QQ _);have hcH: ∀(H:List Blk) tok,ACallH Tryz.prog 128 H [.c (.int .i64 (n:Int)),.agg (fC F),.c (.slice (A1c (L.drop a)) tok)] H (.c (.bool (decide (ncls n (Conn (pkN L t++L.drop a))=1)))):=fun H tok=>
     ACall.h hcn (by simp [toT,B0R,A0a,A0k,tF,A0C])
    clear hcn;have e0:=Qq hlt;have e1:=A20 e0;have hrng:=hL _ (Xw hlt);have hpk:pkN L (t++[a])=pkN L t++[L[a]]:=by
     rw [B4a]; simp [pkN,Qz,e0]
    generalize L[a]=p at*;obtain ⟨pa,pb⟩:=p;obtain ⟨a0,rfl⟩:=XW hrng.1.1;obtain ⟨b0,rfl⟩:=XW hrng.2.1;have ha0:a0<n:=by have:=hrng.1.2; simp only at this; omega
    have hb0:b0<n:=by have:=hrng.2.2; simp only at this; omega
    change (A1c L)[a]? =some [.int .i64 (a0:Int),.int .i64 (b0:Int)] at e1;change pkN L (t++[a])=pkN L t++[((a0:Int),(b0:Int))] at hpk;have hF':=hF;obtain ⟨rt,dp,td⟩:=hF';have tn:=td.snoc hn (B92 hL htL) ha0 hb0;rw [<-hpk] at tn;have hjc:=td.tc.conn a0 b0 (by omega) (by omega);have hJ:=A7R td.tc.tf a0 b0 (by omega) (by omega) (H:= .ghost (J k)::(H1++[.box (fC F),.box (fC F)])) (id:=H1.length+1+1) (by rw [List.getElem?_cons_succ]; exact eB _);have hgs:=B6H hlt hfull;have htk2:(fC (F.set (rt a0) (rt b0))).take 12=fC (F.set (rt a0) (rt b0)):=ZJ (by rw [A0V,Yw,hfl]; exact QQ _);have sA: ∀(X:List Blk) (B:Blk),(H1++X).set H1.length B=H1++X.set 0 B:=fun X B=>by rw [JV _ _ (QQ _),JQ]
    have sB: ∀(X:List Blk) (B:Blk),(H1++X).set (H1.length+1) B=H1++X.set 1 B:=fun X B=>by rw [JV _ _ (by omega),show H1.length+1-H1.length=1 by omega]
    have hst:=A34 A23 F (by rw [hfl]; rfl);have hz:fC A23=[.int .i64 0,.int .i64 0,.int .i64 0,.int .i64 0,.int .i64 0,.int .i64 0,.int .i64 0,.int .i64 0,.int .i64 0,.int .i64 0,.int .i64 0,.int .i64 0]:=rfl;rw [hz] at hst;clear hz;have hJh:(.ghost (J k)::(H1++[.box (fC F),.box (fC F)]):List Blk).set (H1.length+1+1) (.box (fC (F.set (rt a0) (rt b0))))++[.box [.int .i64 (a0:Int),.int .i64 (b0:Int)]]= .ghost (J k)::(H1++[.box (fC F),.box (fC (F.set (rt a0) (rt b0))),.box [.int .i64 (a0:Int),.int .i64 (b0:Int)]]):=by
     rw [List.set_cons_succ,sB]; simp
    rw [hJh] at hJ;clear hJh;by_cases hc1:ncls n (Conn (pkN L t++L.drop a))=1
    ·rw [decide_eq_true hc1] at hcH;refine AWp.seqMid (.c (.vec (j+1) t.length cap):: .c .any:: .c .any:: .c (.rptr [.int .i64 (n:Int)]):: .c .any:: .c (.rptr [.slice (A1c L)]):: .c (.ptr 2 0):: .c .any:: .c .any:: .c (.ptr (H1.length+1) 0):: .c (.bool false):: .c (.int .i64 (a:Int)):: .c .any:: .c .any:: .c .any:: .c .any:: .c .any:: .c .any:: .c .any:: .c .any:: .c .any:: .c .any:: .c .any:: .c .any:: .c .any:: .c .any:: .c .any:: .c .any:: .c .any:: .c .any:: .c .any:: .c .any:: .c .any:: .c .any:: .c .any:: .c .any:: .c .any:: .c .any:: .c .any:: .c .any:: .c .any:: .c .any:: .c .any:: .c .any:: .c .any:: .c .any:: .c .any:: .c .any:: .c .any:: .c .any:: .c .any:: .c .any:: .c .any:: .c .any:: .c .any::[]) (.ghost (J k)::(H1++[.box (fC F)])) ?_ ?_
     ·
      repeat' ((fail_if_success (with_reducible refine AWp.atSeq 7 ?_));(fail_if_success (with_reducible refine AWp.atLast 7 ?_));first|((first|(refine zT ?_;intro K' hK')|(refine zG ?_ ?_<;>(try refine zH ?_)<;>intro hguard<;>(try exact zX)<;>try intro K' hK'))<;>((try simp+contextual only [go_sem,hltI,A02,hdr,htp,eA,eB,A0V,hfl,htk12,Int.toNat_natCast]);(repeat' first|(with_reducible refine hK' _ _ ?_;clear hK' K')|((with_reducible first|refine ⟨_,_,(hcH _ _),?_⟩|refine ⟨_,(hcH _ _),?_⟩);try simp+contextual only [go_sem,hltI,A02,hdr,htp,eA,eB,A0V,hfl,htk12,Int.toNat_natCast])|(with_reducible exact A6k (by assumption))|exact zY|with_reducible refine Qw8 ?_ ?_|(with_reducible intro hpath;try exact zP)|(refine hK' _ _ ?_;clear hK' K')|fail);try refine zS ?_))|(refine zE ?_;refine hK _ _ ?_;clear hK K)|(refine zN ?_;try refine zS ?_)|refine zA ?_|(refine zB ?_;intro K hK)|(refine zC ?_ ?_<;>(try refine zH ?_)<;>intro hcond<;>try exact zX)|fail)
      all_goals
       exact Weak.headN (H1.length+2) 55 [0,3,5,6,9,10,11] (by (repeat' (first | exact A0n _ | exact A0v _ | exact A0i _ | refine Qw8 ?_ ?_ | refine A0j ?_ ?_ | refine A0l ?_ ?_ | refine A0g ?_ ?_ | exact Qw7 | exact inF (by assumption) _ | exact A0Z | (show _<_; omega) | exact A0q (fun _=>Qw7) | (intro c hc; cases hc; done) | (intro c hc; simp only [Qw,Qk,or_false] at hc; subst hc; first | exact Qw7 | exact inF (by assumption) _ | exact A0Z | (show _<_; omega)) | (intro c hc; simp only [Qw,Qk,or_false] at hc; rcases hc with rfl | rfl<;>first | exact Qw7 | exact inF (by assumption) _ | exact A0Z | (show _<_; omega)))))
     repeat' ((fail_if_success (with_reducible refine AWp.atSeq 7 ?_));(fail_if_success (with_reducible refine AWp.atLast 7 ?_));first|((first|(refine zT ?_;intro K' hK')|(refine zG ?_ ?_<;>(try refine zH ?_)<;>intro hguard<;>(try exact zX)<;>try intro K' hK'))<;>((try simp+contextual only [go_sem,eA,eB,A0V,hfl,htk12,Zk,sA,sB,hst,A4g]);(repeat' first|(with_reducible refine hK' _ _ ?_;clear hK' K')|exact zY|with_reducible refine Qw8 ?_ ?_|(with_reducible intro hpath;try exact zP)|(refine hK' _ _ ?_;clear hK' K')|fail);try refine zS ?_))|(refine zE ?_;refine hK _ _ ?_;clear hK K)|(refine zN ?_;try refine zS ?_)|refine zA ?_|(refine zB ?_;intro K hK)|(refine zC ?_ ?_<;>(try refine zH ?_)<;>intro hcond<;>try exact zX)|fail)
     refine AWp.seq (AWp.of_adr (by kernel_rfl) ?_);refine ADr.seg' 2 1 [(38,.c (.slice (A1c L) .none))] (by kernel_rfl) (by kernel_rfl) rfl (.inl ⟨rfl,(A4z _ (.inl rfl)).n⟩) (zQ Qw9) (by rintro r H' ⟨rfl,rfl⟩; exact zQ Qw9) ?_;rintro r H' ⟨rfl,rfl⟩;simp only [A1d,A1f,aeval,YQ,Yy,List.set_cons_succ,List.set_cons_zero];by_cases hjn:rt a0=rt b0
     ·
      rw [decide_eq_true hjn,VJ] at hJ;refine ADr.run 4 (by kernel_rfl) (by decide) (fun K hK=> ?_);simp only [Nat.reduceAdd,Zw,ZW,List.take_succ_cons,List.take_zero]
      repeat' (first|((first|(refine zT ?_;intro K' hK')|(refine zG ?_ ?_<;>(try refine zH ?_)<;>intro hguard<;>(try exact zX)<;>try intro K' hK'))<;>((try simp+contextual only [go_sem,hltI,e1,A02,Int.toNat_natCast]);(repeat' first|(with_reducible refine hK' _ _ ?_;clear hK' K')|((with_reducible first|refine ⟨_,_,hJ,?_⟩|refine ⟨_,hJ,?_⟩);try simp+contextual only [go_sem,hltI,e1,A02,Int.toNat_natCast])|exact zY|with_reducible refine Qw8 ?_ ?_|(with_reducible intro hpath;try exact zP)|(refine hK' _ _ ?_;clear hK' K')|fail);try refine zS ?_))|(refine zE ?_;refine hK _ _ ?_;clear hK K)|(refine zN ?_;try refine zS ?_)|fail)
      try simp only [Nat.reduceAdd]
      refine ADr.seg' 16 15 [(44,.tup []),(45,.tup []),(46,.tup []),(47,.tup []),(48,.tup []),(49,.tup []),(50,.tup []),(51,.tup []),(52,.tup [])] (by kernel_rfl) (by kernel_rfl) rfl (R:=fun r H=>r= .tup []∧H=_) (.inr ⟨rfl,rfl,rfl⟩) zQs (by rintro r H' ⟨rfl,rfl⟩; exact zQs) ?_;rintro r H' ⟨rfl,rfl⟩;simp only [A1d,A1f,aeval,YQ,Yy,List.set_cons_succ,List.set_cons_zero];refine ADr.run 1 (by kernel_rfl) (by decide) (fun K hK=> ?_);simp only [Nat.reduceAdd,Zw,ZW,List.take_succ_cons,List.take_zero]
      repeat' (first|((first|(refine zT ?_;intro K' hK')|(refine zG ?_ ?_<;>(try refine zH ?_)<;>intro hguard<;>(try exact zX)<;>try intro K' hK'))<;>((try simp+contextual only [go_sem]);(repeat' first|(with_reducible refine hK' _ _ ?_;clear hK' K')|exact zY|with_reducible refine Qw8 ?_ ?_|(with_reducible intro hpath;try exact zP)|(refine hK' _ _ ?_;clear hK' K')|fail);try refine zS ?_))|(refine zE ?_;refine hK _ _ ?_;clear hK K)|(refine zN ?_;try refine zS ?_)|fail)
      try simp only [Nat.reduceAdd]
      refine ADr.done (by decide) ?_;have hna: ¬A4t (pkN L (t++[a])):=fun h=>by rw [hpk,A24] at h; exact h.2 (hjc.1 hjn)
      rw [if_neg hna,List.nil_append] at hgs;rw [hgs] at hcnt hxa;refine zR Qw9 Qw9 Qw9 ?_;refine ⟨(a+1,k),Weak.headN (H1.length+2) 55 [0,3,5,6,9,10,11] (by (repeat' (first | exact A0n _ | exact A0v _ | exact A0i _ | refine Qw8 ?_ ?_ | refine A0j ?_ ?_ | refine A0l ?_ ?_ | refine A0g ?_ ?_ | exact Qw7 | exact inF (by assumption) _ | exact A0Z | (show _<_; omega) | exact A0q (fun _=>Qw7) | (intro c hc; cases hc; done) | (intro c hc; simp only [Qw,Qk,or_false] at hc; subst hc; first | exact Qw7 | exact inF (by assumption) _ | exact A0Z | (show _<_; omega)) | (intro c hc; simp only [Qw,Qk,or_false] at hc; rcases hc with rfl | rfl<;>first | exact Qw7 | exact inF (by assumption) _ | exact A0Z | (show _<_; omega))))),?_,?_⟩
      ·exact ⟨by omega,hlt,hcnt,hxa⟩
      ·simp only; omega
     ·
      rw [decide_eq_false hjn,Qq8] at hJ;refine ADr.run 4 (by kernel_rfl) (by decide) (fun K hK=> ?_);simp only [Nat.reduceAdd,Zw,ZW,List.take_succ_cons,List.take_zero]
      repeat' (first|((first|(refine zT ?_;intro K' hK')|(refine zG ?_ ?_<;>(try refine zH ?_)<;>intro hguard<;>(try exact zX)<;>try intro K' hK'))<;>((try simp+contextual only [go_sem,hltI,e1,A02,Int.toNat_natCast]);(repeat' first|(with_reducible refine hK' _ _ ?_;clear hK' K')|((with_reducible first|refine ⟨_,_,hJ,?_⟩|refine ⟨_,hJ,?_⟩);try simp+contextual only [go_sem,hltI,e1,A02,Int.toNat_natCast])|exact zY|with_reducible refine Qw8 ?_ ?_|(with_reducible intro hpath;try exact zP)|(refine hK' _ _ ?_;clear hK' K')|fail);try refine zS ?_))|(refine zE ?_;refine hK _ _ ?_;clear hK K)|(refine zN ?_;try refine zS ?_)|fail)
      try simp only [Nat.reduceAdd]
      have hya:A4t (pkN L (t++[a])):=by rw [hpk,A24]; exact ⟨hac,fun h=>hjn (hjc.2 h)⟩
      rw [if_pos hya] at hgs;rw [hgs] at hcnt hxa;have hch:chunks 1 1 [Tree.int .i64 (a:Int)]=[[Tree.int .i64 (a:Int)]]:=rfl;have hrg: -9223372036854775808≤(a:Int)+1∧(a:Int)+1≤9223372036854775807:=by omega
      have hfl2:(F.set (rt a0) (rt b0)).length=12:=by rw [Yw]; exact hfl
      have hfn:=hG.fn [.box (fC F),.box (fC (F.set (rt a0) (rt b0))),.box [.int .i64 (a0:Int),.int .i64 (b0:Int)]];have h51:=eB [.box (fC F),.box (fC (F.set (rt a0) (rt b0))),.box [.int .i64 (a0:Int),.int .i64 (b0:Int)]];refine ADr.seg' 14 10 [(44,.c (.fn 126 (growCaps n L))),(45,.c (.vec (j+1) t.length cap)),(46,.c (.int .i64 (a:Int))),(47,.c (.slice [[.int .i64 (a:Int)]] .exact)),(49,.c (.int .i64 (a:Int))),(50,.c (.int .i64 ((a:Int)+1))),(51,.agg (fC (F.set (rt a0) (rt b0))))] (by kernel_rfl) (by kernel_rfl) rfl
       (.inl ⟨rfl,A8u (e:=3) (e2:=3) (by':=8) (z:= .int .i64 0) (used:=nC t) (tr:= .int .i64 (a:Int)) (tok:= .exact) rfl (by simp only [ty]) (by simp only [ty]) (by simp only [ty]) (by simp only [ty]) rfl (by simp only [ty]) rfl ?_ (B2y t) hcap rfl (by omega) (by omega)⟩) ?_ ?_ ?_
      ·rcases hV with ⟨h1,h2⟩ | ⟨h1,h2⟩
       ·exact .inl ⟨h1,by rw [h2]; rfl⟩
       ·exact .inr (by rw [List.getElem?_cons_succ,Qv hj]; exact h2)
      ·exact zQ (Qw8 hfn (Qw8 h51 (Qw8 htk2 (Qw8 hch (Qw8 hrg (Qw8 hfl2 (Qw8 A0V Qw7)))))))
      ·rintro r H' (⟨hlc,rfl,rfl⟩ | ⟨cap',hc',rfl,rfl⟩)
       ·obtain ⟨h2j,hVj⟩:=hV.resolve_left fun h=>by omega
        have e:(.ghost (J k)::(H1++[.box (fC F),.box (fC (F.set (rt a0) (rt b0))),.box [.int .i64 (a0:Int),.int .i64 (b0:Int)]]):List Blk).set (j+1) (.box (nC t++[cellOf (.int .i64 (a:Int))]++List.replicate (cap-(t.length+1)) .any))= .ghost (J k)::(H1.set j (.box (nC (t++[a])++List.replicate (cap-(t.length+1)) .any))++[.box (fC F),.box (fC (F.set (rt a0) (rt b0))),.box [.int .i64 (a0:Int),.int .i64 (b0:Int)]]):=by
         rw [List.set_cons_succ,Qq7 _ _ hj,<-B1f]; rfl
        have hGp:=hG.put h2j (B:= .box (nC (t++[a])++List.replicate (cap-(t.length+1)) .any)) (B96 _ (by simp)) (fun m=>C4c _ _);have hfn':=hGp.fn [.box (fC F),.box (fC (F.set (rt a0) (rt b0))),.box [.int .i64 (a0:Int),.int .i64 (b0:Int)]];have h51':(H1.set j (.box (nC (t++[a])++List.replicate (cap-(t.length+1)) .any))++[.box (fC F),.box (fC (F.set (rt a0) (rt b0))),.box [.int .i64 (a0:Int),.int .i64 (b0:Int)]])[H1.length+1]? =some (Blk.box (fC (F.set (rt a0) (rt b0)))):=by
         rw [QV (by rw [Yw]; omega),Yw,show H1.length+1-H1.length=1 by omega]; rfl
        rw [e];exact zQ (Qw8 hfn' (Qw8 h51' (Qw8 htk2 (Qw8 hch (Qw8 hrg (Qw8 hfl2 (Qw8 A0V Qw7)))))))
       ·have hfn':=hG.fn [.box (fC F),.box (fC (F.set (rt a0) (rt b0))),.box [.int .i64 (a0:Int),.int .i64 (b0:Int)],.box (nC t++[cellOf (.int .i64 (a:Int))]++List.replicate (cap'-(t.length+1)) .any)];have h51':=eB [.box (fC F),.box (fC (F.set (rt a0) (rt b0))),.box [.int .i64 (a0:Int),.int .i64 (b0:Int)],.box (nC t++[cellOf (.int .i64 (a:Int))]++List.replicate (cap'-(t.length+1)) .any)];simp only [List.cons_append,Zk,List.nil_append] at hfn' h51' ⊢;exact zQ (Qw8 hfn' (Qw8 h51' (Qw8 htk2 (Qw8 hch (Qw8 hrg (Qw8 hfl2 (Qw8 A0V Qw7)))))))
      ·have hxn: ∀i T,(A17 n L (L.length-(a+1)) (t++[a]) (a+1))[i]? =some T->xs[k+i]? =some [A5S T]:=fun i T h=>
        hxa i T (by rw [Qv (Qx.1 h).1]; exact h)
       have hxr: ∀i T,(A17 n L (L.length-(a+1)) t (a+1))[i]? =some T->xs[(k+(A17 n L (L.length-(a+1)) (t++[a]) (a+1)).length)+i]? =some [A5S T]:=fun i T h=>by
        have:=hxa ((A17 n L (L.length-(a+1)) (t++[a]) (a+1)).length+i) T (by rw [QV (Nat.le_add_right _ _),Nat.add_sub_cancel_left]; exact h);rwa [<-WQ] at this
       have hcr:(k+(A17 n L (L.length-(a+1)) (t++[a]) (a+1)).length)+(A17 n L (L.length-(a+1)) t (a+1)).length=k0+(A17 n L fuel t e).length:=by
        rw [<-hcnt,Xv]; omega
       have htl2: ∀x,x∈t++[a]->x<L.length:=fun x hx=>by
        rcases XJ.1 hx with hx | hx
        ·exact htL x hx
        ·rw [Zz] at hx; omega
       have el:(t++[a]).length=t.length+1:=by simp
       have ei:((a+1:Nat):Int)=(a:Int)+1:=by omega
       have okX: ∀b,b∈([.box (fC F),.box (fC (F.set (rt a0) (rt b0))),.box [.int .i64 (a0:Int),.int .i64 (b0:Int)]]:List Blk)->okBlk b:=fun b hb=>by
        simp only [Qw,Qk,or_false] at hb;rcases hb with rfl | rfl | rfl
        ·exact okF (H1:=[]) (by simp) hfl _ (by simp)
        ·exact okF (H1:=[]) (by simp) hfl2 _ (by simp)
        ·exact trivial
       have inX: ∀b,b∈([.box (fC F),.box (fC (F.set (rt a0) (rt b0))),.box [.int .i64 (a0:Int),.int .i64 (b0:Int)]]:List Blk)-> ∀m,blkIn m b:=fun b hb m=>by
        simp only [Qw,Qk,or_false] at hb;rcases hb with rfl | rfl | rfl
        ·exact A0Z
        ·exact A0Z
        ·intro c hc;simp only [Qw,Qk,or_false] at hc;rcases hc with rfl | rfl<;>exact trivial
       rintro r H' (⟨hlc,rfl,rfl⟩ | ⟨cap',hc',rfl,rfl⟩)
       ·obtain ⟨h2j,hVj⟩:=hV.resolve_left fun h=>by omega
        have e:(.ghost (J k)::(H1++[.box (fC F),.box (fC (F.set (rt a0) (rt b0))),.box [.int .i64 (a0:Int),.int .i64 (b0:Int)]]):List Blk).set (j+1) (.box (nC t++[cellOf (.int .i64 (a:Int))]++List.replicate (cap-(t.length+1)) .any))= .ghost (J k)::(H1.set j (.box (nC (t++[a])++List.replicate (cap-(t.length+1)) .any))++[.box (fC F),.box (fC (F.set (rt a0) (rt b0))),.box [.int .i64 (a0:Int),.int .i64 (b0:Int)]]):=by
         rw [List.set_cons_succ,Qq7 _ _ hj,<-B1f]; rfl
        have hGp:=hG.put h2j (B:=(.box (nC (t++[a])++List.replicate (cap-(t.length+1)) .any))) (B96 _ (by simp)) (fun m=>C4c _ _);have hcall:=ih (L.length-(a+1)) (by omega) (t++[a]) (a+1) (F.set (rt a0) (rt b0)) k (H1.set j (.box (nC (t++[a])++List.replicate (cap-(t.length+1)) .any))++[.box (fC F),.box (fC (F.set (rt a0) (rt b0))),.box [.int .i64 (a0:Int),.int .i64 (b0:Int)]]) j cap (by omega) tn hya htl2 (by omega) hxn (hGp.app okX inX) (.inr ⟨h2j,by rw [el,Qv (by rw [Yw]; exact hj),QW hj]⟩) (by rw [Xv,Yw]; omega) (by omega);rw [el,ei] at hcall;rw [e];simp only [A1d,A1f,aeval,YQ,Yy,List.set_cons_succ,List.set_cons_zero];refine ADr.one' (by kernel_rfl) rfl (.inl ⟨rfl,A6U rfl rfl hcall⟩) ?_;rintro r H' (⟨rfl,rfl⟩ | ⟨rfl,rfl⟩)
        ·
         simp only [A1d,A1f,aeval,YQ,Yy,List.set_cons_succ,List.set_cons_zero];refine ADr.run 2 (by kernel_rfl) (by decide) (fun K hK=> ?_);simp only [Nat.reduceAdd,Zw,ZW,List.take_succ_cons,List.take_zero]
         repeat' (first|((first|(refine zT ?_;intro K' hK')|(refine zG ?_ ?_<;>(try refine zH ?_)<;>intro hguard<;>(try exact zX)<;>try intro K' hK'))<;>((try simp+contextual only [go_sem]);(repeat' first|(with_reducible refine hK' _ _ ?_;clear hK' K')|exact zY|with_reducible refine Qw8 ?_ ?_|(with_reducible intro hpath;try exact zP)|(refine hK' _ _ ?_;clear hK' K')|fail);try refine zS ?_))|(refine zE ?_;refine hK _ _ ?_;clear hK K)|(refine zN ?_;try refine zS ?_)|fail)
         try simp only [Nat.reduceAdd]
         refine ADr.done (by decide) (A2G.n ?_);refine AWp.cellAny (j+1) t.length (cs:=nC (t++[a])++List.replicate (cap-(t.length+1)) .any) (by rw [List.getElem?_cons_succ,Qv (by rw [Yw]; exact hj),QW hj]) ?_;rw [B97 hlc,B5m hVj];refine zR Qw9 Qw9 Qw9 ?_;refine ⟨(a+1,k+(A17 n L (L.length-(a+1)) (t++[a]) (a+1)).length),Weak.headN (H1.length+2) 55 [0,3,5,6,9,10,11] (by (repeat' (first | exact A0n _ | exact A0v _ | exact A0i _ | refine Qw8 ?_ ?_ | refine A0j ?_ ?_ | refine A0l ?_ ?_ | refine A0g ?_ ?_ | exact Qw7 | exact inF (by assumption) _ | exact A0Z | (show _<_; omega) | exact A0q (fun _=>Qw7) | (intro c hc; cases hc; done) | (intro c hc; simp only [Qw,Qk,or_false] at hc; subst hc; first | exact Qw7 | exact inF (by assumption) _ | exact A0Z | (show _<_; omega)) | (intro c hc; simp only [Qw,Qk,or_false] at hc; rcases hc with rfl | rfl<;>first | exact Qw7 | exact inF (by assumption) _ | exact A0Z | (show _<_; omega))))),?_,?_⟩
         ·exact ⟨by omega,hlt,hcr,hxr⟩
         ·simp only; omega
        ·
         simp only [A1d,A1f,aeval,YQ,Yy,List.set_cons_succ,List.set_cons_zero];refine ADr.run 2 (by kernel_rfl) (by decide) (fun K hK=> ?_);simp only [Nat.reduceAdd,Zw,ZW,List.take_succ_cons,List.take_zero]
         repeat' (first|((first|(refine zT ?_;intro K' hK')|(refine zG ?_ ?_<;>(try refine zH ?_)<;>intro hguard<;>(try exact zX)<;>try intro K' hK'))<;>((try simp+contextual only [go_sem]);(repeat' first|(with_reducible refine hK' _ _ ?_;clear hK' K')|exact zY|with_reducible refine Qw8 ?_ ?_|(with_reducible intro hpath;try exact zP)|(refine hK' _ _ ?_;clear hK' K')|fail);try refine zS ?_))|(refine zE ?_;refine hK _ _ ?_;clear hK K)|(refine zN ?_;try refine zS ?_)|fail)
         try simp only [Nat.reduceAdd]
         refine ADr.done (by decide) (A2G.n ?_);refine AWp.cellAny (j+1) t.length (cs:=nC (t++[a])++List.replicate (cap-(t.length+1)) .any) (by rw [List.getElem?_cons_succ,Qv (by rw [Yw]; exact hj),QW hj]) ?_;rw [B97 hlc,B5m hVj];refine zR Qw9 Qw9 Qw9 ?_;exact ⟨trivial,_,⟨_,.inr ⟨rfl,rfl⟩⟩,by simp [A1Y,A0s,A1X,Tryz.results126]⟩
       ·have el2:(.ghost (J k)::(H1++[.box (fC F),.box (fC (F.set (rt a0) (rt b0))),.box [.int .i64 (a0:Int),.int .i64 (b0:Int)]]):List Blk).length=(H1.length+3)+1:=by simp
        have e:(.ghost (J k)::(H1++[.box (fC F),.box (fC (F.set (rt a0) (rt b0))),.box [.int .i64 (a0:Int),.int .i64 (b0:Int)]]):List Blk)++[.box (nC t++[cellOf (.int .i64 (a:Int))]++List.replicate (cap'-(t.length+1)) .any)]= .ghost (J k)::(H1++[.box (fC F),.box (fC (F.set (rt a0) (rt b0))),.box [.int .i64 (a0:Int),.int .i64 (b0:Int)]]++[.box (nC (t++[a])++List.replicate (cap'-(t.length+1)) .any)]):=by
         rw [<-B1f]; rfl
        have hcall:=ih (L.length-(a+1)) (by omega) (t++[a]) (a+1) (F.set (rt a0) (rt b0)) k (H1++[.box (fC F),.box (fC (F.set (rt a0) (rt b0))),.box [.int .i64 (a0:Int),.int .i64 (b0:Int)]]++[.box (nC (t++[a])++List.replicate (cap'-(t.length+1)) .any)]) (H1.length+3) cap' (by omega) tn hya htl2 (by omega) hxn
         ((hG.app okX inX).app (fun b hb=>by rw [Zz] at hb; subst hb; exact B96 _ (by simp)) (fun b hb m=>by rw [Zz] at hb; subst hb; exact C4c _ _))
         (.inr ⟨by have:=hG.len; omega,by rw [el,QV (by simp)]; simp⟩) (by simp) (by omega)
        rw [el,ei] at hcall;rw [e,el2];simp only [A1d,A1f,aeval,YQ,Yy,List.set_cons_succ,List.set_cons_zero];refine ADr.one' (by kernel_rfl) rfl (.inl ⟨rfl,A6U rfl rfl hcall⟩) ?_;rintro r H' (⟨rfl,rfl⟩ | ⟨rfl,rfl⟩)
        ·
         simp only [A1d,A1f,aeval,YQ,Yy,List.set_cons_succ,List.set_cons_zero];refine ADr.run 2 (by kernel_rfl) (by decide) (fun K hK=> ?_);simp only [Nat.reduceAdd,Zw,ZW,List.take_succ_cons,List.take_zero]
         repeat' (first|((first|(refine zT ?_;intro K' hK')|(refine zG ?_ ?_<;>(try refine zH ?_)<;>intro hguard<;>(try exact zX)<;>try intro K' hK'))<;>((try simp+contextual only [go_sem]);(repeat' first|(with_reducible refine hK' _ _ ?_;clear hK' K')|exact zY|with_reducible refine Qw8 ?_ ?_|(with_reducible intro hpath;try exact zP)|(refine hK' _ _ ?_;clear hK' K')|fail);try refine zS ?_))|(refine zE ?_;refine hK _ _ ?_;clear hK K)|(refine zN ?_;try refine zS ?_)|fail)
         try simp only [Nat.reduceAdd]
         refine ADr.done (by decide) (A2G.n ?_);rw [Zk];refine zR Qw9 Qw9 Qw9 ?_;refine ⟨(a+1,k+(A17 n L (L.length-(a+1)) (t++[a]) (a+1)).length),Weak.headN (H1.length+2) 55 [0,3,5,6,9,10,11] (by (repeat' (first | exact A0n _ | exact A0v _ | exact A0i _ | refine Qw8 ?_ ?_ | refine A0j ?_ ?_ | refine A0l ?_ ?_ | refine A0g ?_ ?_ | exact Qw7 | exact inF (by assumption) _ | exact A0Z | (show _<_; omega) | exact A0q (fun _=>Qw7) | (intro c hc; cases hc; done) | (intro c hc; simp only [Qw,Qk,or_false] at hc; subst hc; first | exact Qw7 | exact inF (by assumption) _ | exact A0Z | (show _<_; omega)) | (intro c hc; simp only [Qw,Qk,or_false] at hc; rcases hc with rfl | rfl<;>first | exact Qw7 | exact inF (by assumption) _ | exact A0Z | (show _<_; omega))))),?_,?_⟩
         ·exact ⟨by omega,hlt,hcr,hxr⟩
         ·simp only; omega
        ·
         simp only [A1d,A1f,aeval,YQ,Yy,List.set_cons_succ,List.set_cons_zero];refine ADr.run 2 (by kernel_rfl) (by decide) (fun K hK=> ?_);simp only [Nat.reduceAdd,Zw,ZW,List.take_succ_cons,List.take_zero]
         repeat' (first|((first|(refine zT ?_;intro K' hK')|(refine zG ?_ ?_<;>(try refine zH ?_)<;>intro hguard<;>(try exact zX)<;>try intro K' hK'))<;>((try simp+contextual only [go_sem]);(repeat' first|(with_reducible refine hK' _ _ ?_;clear hK' K')|exact zY|with_reducible refine Qw8 ?_ ?_|(with_reducible intro hpath;try exact zP)|(refine hK' _ _ ?_;clear hK' K')|fail);try refine zS ?_))|(refine zE ?_;refine hK _ _ ?_;clear hK K)|(refine zN ?_;try refine zS ?_)|fail)
         try simp only [Nat.reduceAdd]
         refine ADr.done (by decide) (A2G.n ?_);rw [Zk];refine zR Qw9 Qw9 Qw9 ?_;exact ⟨trivial,_,⟨_,.inr ⟨rfl,rfl⟩⟩,by simp [A1Y,A0s,A1X,Tryz.results126]⟩
    ·rw [decide_eq_false hc1] at hcH;have hg0:=B93 (by omega) hL (k:=L.length-a) hac htL (by omega) hc1;rw [hg0,List.length_nil,Nat.add_zero] at hcnt
     repeat' ((fail_if_success (with_reducible refine AWp.atSeq 7 ?_));(fail_if_success (with_reducible refine AWp.atLast 7 ?_));first|((first|(refine zT ?_;intro K' hK')|(refine zG ?_ ?_<;>(try refine zH ?_)<;>intro hguard<;>(try exact zX)<;>try intro K' hK'))<;>((try simp+contextual only [go_sem,hltI,A02,hdr,htp,eA,eB,A0V,hfl,htk12,Int.toNat_natCast]);(repeat' first|(with_reducible refine hK' _ _ ?_;clear hK' K')|((with_reducible first|refine ⟨_,_,(hcH _ _),?_⟩|refine ⟨_,(hcH _ _),?_⟩);try simp+contextual only [go_sem,hltI,A02,hdr,htp,eA,eB,A0V,hfl,htk12,Int.toNat_natCast])|(with_reducible exact A6k (by assumption))|exact zY|with_reducible refine Qw8 ?_ ?_|(with_reducible intro hpath;try exact zP)|(refine hK' _ _ ?_;clear hK' K')|fail);try refine zS ?_))|(refine zE ?_;refine hK _ _ ?_;clear hK K)|(refine zN ?_;try refine zS ?_)|refine zA ?_|(refine zB ?_;intro K hK)|(refine zC ?_ ?_<;>(try refine zH ?_)<;>intro hcond<;>try exact zX)|fail)
     all_goals exact ⟨trivial,_,⟨_,.inl ⟨rfl,by rw [hcnt]⟩⟩,by simp [A1Y,A0s,A1X,Tryz.results126]⟩
   ·have ea:a=L.length:=by omega
    subst ea;have hnl: ¬((L.length:Int)<L.length):=by omega
    rw [JQ,A17,if_neg hfull,List.length_nil,Nat.add_zero] at hcnt;refine zJ (stop 7) (zc @hnl (zc @A02 Qw9)) Qw9 Qw9 Qw9 ?_;exact ⟨trivial,_,⟨_,.inl ⟨rfl,by rw [hcnt]⟩⟩,by simp [A1Y,A0s,A1X,Tryz.results126]⟩
end Go.Proofs.YtdbdfkohpjefjaaGreat
