/- A part of the proof. -/
import Derived.Test.YtdbdfkohpjefjaaGreatPart24
import Derived.Test.YtdbdfkohpjefjaaGreatPart22
set_option linter.all false
set_option maxHeartbeats 4000000
set_option maxRecDepth 100000
namespace Go.Proofs.YtdbdfkohpjefjaaGreat
open Go.Sp
def C5L (n:Nat) (hn2:2≤n) (hn:n≤12) (L:List (Int×Int)) (hL:InN n L) (hLl:L.length<2^20) (l:Nat) (xs:List (List TVal)) (J:Nat->Sig->World->Prop) (Jx:Sig->World->Prop) (hJ: ∀k,Clo (J k)) (hJx:Clo Jx)
  (hY: ∀k ts,xs[k]? =some ts->YStep Tryz.prog l (J k) ts (J (k+1)) Jx):
  ∀ (fuel:Nat) (t:List Nat) (e:Nat) (F:List Nat) (k0:Nat) (H1:List Blk) (j cap:Nat),e+fuel=L.length->TDe n (pkN L t) F->acyc (pkN L t)->(∀x,x∈t->x<L.length)->t.length+1≤n->
   (∀i T,(A18 n L fuel t e)[i]? =some T->xs[k0+i]? =some [A6e T])->GH l n L H1->GV t j cap H1->j<H1.length->t.length≤cap->
   ACallE Tryz.prog 126 (.ghost (J k0)::H1) ([.c (.vec (j+1) t.length cap),.c (.int .i64 (e:Int)),.agg (fC F)]++(growCaps n L).map A4F)
    (fun H' r=>(r= .c (.bool true)∧H'= .ghost (J (k0+(A18 n L fuel t e).length))::H1)∨(r= .c (.bool false)∧H'= .ghost Jx::H1)):=by
 intro fuel
 induction fuel using Nat.strongRecOn with
 | ind fuel ih=>
 intro t e F k0 H1 j cap hef hF hac htL htn hxs hG hV hj hcap;have hfl:F.length=12:=by obtain ⟨_,_,h⟩:=hF; exact h.tc.tf.len
 have htk: ∀(G:Blk) (X:List Blk),(G::(H1++X)).take (H1.length+1)=G::H1:=fun G X=>by simp
 refine (ACallE.trim (H1.length+1) (R:=GR J Jx (k0+(A18 n L fuel t e).length) H1) ?_ (by simp) ?_).mono ?_;rotate_left
 ·rintro H2 r ⟨X,⟨rfl,rfl⟩ | ⟨rfl,rfl⟩⟩<;>
  ·refine ⟨?_,trivial⟩;rw [htk];intro b hb;rcases QV.1 hb with rfl | hb
   ·trivial
   ·exact hG.inn b hb
 ·rintro H' r ⟨H2,⟨X,⟨rfl,rfl⟩ | ⟨rfl,rfl⟩⟩,rfl⟩
  ·rw [htk]; exact .inl ⟨rfl,rfl⟩
  ·rw [htk]; exact .inr ⟨rfl,rfl⟩
 refine ACallE.of_body Tryz.func126 rfl (by kernel_rfl) ?_;simp only [entry,growCaps,A4F,A0v,XY,ZQ,Tryz.ntmps126,List.length_cons,List.length_nil,Nat.reduceAdd,Nat.reduceSub,List.replicate_succ,List.replicate_zero,List.cons_append,List.nil_append];by_cases hfull:t.length+1=n
 ·have hI:(t.length:Int)=(n:Int)-1:=by omega
  have hne:t≠[]:=fun h=>by rw [h] at hfull; simp at hfull; omega
  have hpos:0<t.length:=Wy.2 hne;obtain ⟨h2j,hVj⟩:=hV.resolve_left fun h=>hne h.2;have hGe:=(B1a (L:=L) (fuel:=fuel) (e:=e) hfull);rw [hGe] at hxs ⊢;have hx0:=hxs 0 t rfl;rw [Nat.add_zero] at hx0;have hCl:=C0W (t.map fun x:Nat=>(x:Int)) (by simpa using hne) (by rw [XW]; omega);have hbor:A0b (.ghost (J k0)::(H1++[.box (fC F)])) (.ref (j+1) 1 0 t.length t.length)=some (.slice (A0l (t.map fun x:Nat=>(x:Int)))):=
   C5H (by rw [List.getElem?_cons_succ,Qw hj]; exact hVj)
  have hC:ACallH Tryz.prog 127 (.ghost (J k0)::(H1++[.box (fC F)])) [.c (.ref (j+1) 1 0 t.length t.length)] (.ghost (J k0)::(H1++[.box (fC F)])) (ofT (A6e t)):=
   ACallX.h0 (ts:=[A6e t]) hCl (by simp only [JY,List.mapM_nil,toT,A0d,hbor,Option.map_some]; rfl)
  have hy:=hG.yld [.box (fC F)];refine zJ (stop 2) (zc @hI (zc @A0W (zc @hfl Qv5))) Qv5 Qv5 Qv5 ?_;refine AWp.weak (Weak.vecSee 0 (j+1) t.length cap rfl hpos hcap) ?_;simp only [List.set_cons_zero];refine AWp.seq (AWp.of_adr (by kernel_rfl) ?_);refine ADr.seg' 3 2 [(18,.c (.yld l)),(19,.c (.ref (j+1) 1 0 t.length t.length))] (by kernel_rfl) (by kernel_rfl) rfl (.inl ⟨rfl,(A3c _ _ _ rfl 127 [] rfl _ hC).n⟩) (zQ hy) (by rintro r H' ⟨rfl,rfl⟩; exact zQ hy) ?_;rintro r H' ⟨rfl,rfl⟩;simp only [A0Z,A1a,aeval,YQ,Yy,List.set_cons_succ,List.set_cons_zero];refine ADr.one' (by kernel_rfl) rfl (.inl ⟨rfl,B0q (ts:=[A6e t]) rfl rfl rfl (okF hG.ok hfl) (hY k0 _ hx0) (hJ _) hJx⟩) ?_;rintro r H' (⟨rfl,rfl⟩ | ⟨rfl,rfl⟩)
  ·
   simp only [A0Z,A1a,aeval,YQ,Yy,List.set_cons_succ,List.set_cons_zero];refine ADr.run 1 (by kernel_rfl) (by decide) (fun K hK=> ?_);simp only [Nat.reduceAdd,Zy,Yq,List.take_succ_cons,List.take_zero];refine zM trivial trivial trivial trivial trivial (ed fun hp hpc=>?_)
   try simp only [Nat.reduceAdd]
   refine ADr.done (by decide) ?_;refine zR Qv5 Qv5 Qv5 ?_;exact ⟨trivial,_,⟨_,.inl ⟨rfl,rfl⟩⟩,by simp [A2f,A0o,A2e,Tryz.results126]⟩
  ·
   simp only [A0Z,A1a,aeval,YQ,Yy,List.set_cons_succ,List.set_cons_zero];refine ADr.run 1 (by kernel_rfl) (by decide) (fun K hK=> ?_);simp only [Nat.reduceAdd,Zy,Yq,List.take_succ_cons,List.take_zero];refine zM trivial trivial trivial trivial trivial (ed fun hp hpc=>?_)
   try simp only [Nat.reduceAdd]
   refine ADr.done (by decide) ?_;refine zR Qv5 Qv5 Qv5 ?_;exact ⟨trivial,_,⟨_,.inr ⟨rfl,rfl⟩⟩,by simp [A2f,A0o,A2e,Tryz.results126]⟩
 ·have hI: ¬((t.length:Int)=(n:Int)-1):=by omega
  refine zJ (stop 2) (zc @hI (zc @A0W (zc @hfl Qv5))) Qv5 Qv5 Qv5 ?_;have hL0:L.length-e=fuel:=by omega
  have htk12:(fC F).take 12=fC F:=Zw (by rw [A0W,hfl]; exact Qk _);refine AWp.loopS (α:=(Nat×Nat)) 55 (fun s=>[(0,.c (.vec (j+1) t.length cap)),(3,.c (.rptr [.int .i64 (n:Int)])),(5,.c (.rptr [.slice (A0U L)])),(6,.c (.ptr 2 0)),(9,.c (.ptr (H1.length+1) 0)),(10,.c (.bool false)),(11,.c (.int .i64 (s.1:Int)))]) (fun s=>.ghost (J s.2)::(H1++[.box (fC F)])) (fun s=>e≤s.1∧s.1≤L.length∧s.2+(A18 n L (L.length-s.1) t s.1).length=k0+(A18 n L fuel t e).length∧(∀i T,(A18 n L (L.length-s.1) t s.1)[i]? =some T->xs[s.2+i]? =some [A6e T])) (fun s=>L.length-s.1) ((e,k0)) (hk:=Weak.headL (H1.length+2) 55 [0,3,5,6,9,10,11] (zWs (zc @inF @A1s))) (h0:=?_) (round:=fun s hI=>?_)
  ·exact ⟨Qk _,by omega,by rw [hL0],by rw [hL0]; exact hxs⟩
  ·obtain ⟨a,k⟩:=s;obtain ⟨ha1,ha2,hcnt,hxa⟩:=hI;simp only at ha1 ha2 hcnt hxa ⊢;by_cases hlt:a<L.length
   ·have hltI:(a:Int)<L.length:=by omega
    have hcn:=B4X n hn (pkN L t) (L.drop a) F hF (C09 hL htL) (fun p hp=>hL p (List.mem_of_mem_drop hp)) (by rw [List.length_drop]; omega);have hdr:(A0U L).drop a=A0U (L.drop a):=by simp [A0U]
    have eA: ∀X:List Blk,(H1++X)[H1.length]? =X[0]? :=fun X=>by rw [QW (Qk _),Jv]
    have eB: ∀X:List Blk,(H1++X)[H1.length+1]? =X[1]? :=fun X=>by rw [QW (by omega)]; congr 1; omega
    have htp:(A0U L).take L.length=A0U L:=Zw (by rw [A0z]; exact Qk _);have hcH: ∀(H:List Blk) tok,ACallH Tryz.prog 128 H [.c (.int .i64 (n:Int)),.agg (fC F),.c (.slice (A0U (L.drop a)) tok)] H (.c (.bool (decide (ncls n (Conn (pkN L t++L.drop a))=1)))):=fun H tok=>
     ACall.h hcn (by simp [toT,B1C,A0a,A0j,tF,A06])
    clear hcn;have e0:=Qq hlt;have e1:=A28 e0;have hrng:=hL _ (Xw hlt);have hpk:pkN L (t++[a])=pkN L t++[L[a]]:=by
     rw [B4W]; simp [pkN,Qz,e0]
    generalize L[a]=p at*;obtain ⟨pa,pb⟩:=p;obtain ⟨a0,rfl⟩:=Zx hrng.1.1;obtain ⟨b0,rfl⟩:=Zx hrng.2.1;have ha0:a0<n:=by have:=hrng.1.2; simp only at this; omega
    have hb0:b0<n:=by have:=hrng.2.2; simp only at this; omega
    change (A0U L)[a]? =some [.int .i64 (a0:Int),.int .i64 (b0:Int)] at e1;change pkN L (t++[a])=pkN L t++[((a0:Int),(b0:Int))] at hpk;have hF':=hF;obtain ⟨rt,dp,td⟩:=hF';have tn:=td.snoc hn (C09 hL htL) ha0 hb0;rw [<-hpk] at tn;have hjc:=td.tc.conn a0 b0 (by omega) (by omega);have hJ:=A8t td.tc.tf a0 b0 (by omega) (by omega) (H:= .ghost (J k)::(H1++[.box (fC F),.box (fC F)])) (id:=H1.length+1+1) (by rw [List.getElem?_cons_succ]; exact eB _);have hgs:=B7M hlt hfull;have htk2:(fC (F.set (rt a0) (rt b0))).take 12=fC (F.set (rt a0) (rt b0)):=Zw (by rw [A0W,Yz,hfl]; exact Qk _);have sA: ∀(X:List Blk) (B:Blk),(H1++X).set H1.length B=H1++X.set 0 B:=fun X B=>by rw [Vq _ _ (Qk _),Jv]
    have sB: ∀(X:List Blk) (B:Blk),(H1++X).set (H1.length+1) B=H1++X.set 1 B:=fun X B=>by rw [Vq _ _ (by omega),show H1.length+1-H1.length=1 by omega]
    have hst:=A3C A2A F (by rw [hfl]; rfl);have hz:fC A2A=[.int .i64 0,.int .i64 0,.int .i64 0,.int .i64 0,.int .i64 0,.int .i64 0,.int .i64 0,.int .i64 0,.int .i64 0,.int .i64 0,.int .i64 0,.int .i64 0]:=rfl;rw [hz] at hst;clear hz;have hJh:(.ghost (J k)::(H1++[.box (fC F),.box (fC F)]):List Blk).set (H1.length+1+1) (.box (fC (F.set (rt a0) (rt b0))))++[.box [.int .i64 (a0:Int),.int .i64 (b0:Int)]]= .ghost (J k)::(H1++[.box (fC F),.box (fC (F.set (rt a0) (rt b0))),.box [.int .i64 (a0:Int),.int .i64 (b0:Int)]]):=by
     rw [List.set_cons_succ,sB]; simp
    rw [hJh] at hJ;clear hJh;by_cases hc1:ncls n (Conn (pkN L t++L.drop a))=1
    ·rw [decide_eq_true hc1] at hcH;refine AWp.seqMid (.c (.vec (j+1) t.length cap):: .c .any:: .c .any:: .c (.rptr [.int .i64 (n:Int)]):: .c .any:: .c (.rptr [.slice (A0U L)]):: .c (.ptr 2 0):: .c .any:: .c .any:: .c (.ptr (H1.length+1) 0):: .c (.bool false):: .c (.int .i64 (a:Int)):: .c .any:: .c .any:: .c .any:: .c .any:: .c .any:: .c .any:: .c .any:: .c .any:: .c .any:: .c .any:: .c .any:: .c .any:: .c .any:: .c .any:: .c .any:: .c .any:: .c .any:: .c .any:: .c .any:: .c .any:: .c .any:: .c .any:: .c .any:: .c .any:: .c .any:: .c .any:: .c .any:: .c .any:: .c .any:: .c .any:: .c .any:: .c .any:: .c .any:: .c .any:: .c .any:: .c .any:: .c .any:: .c .any:: .c .any:: .c .any:: .c .any:: .c .any:: .c .any::[]) (.ghost (J k)::(H1++[.box (fC F)])) ?_ ?_
     ·
      refine zM (stop 7) (zc @hltI (zc @A0z (zc @hdr (zc @htp (zc @eA (zc @eB (zc @A0W (zc @hfl (zc @htk12 Qv5))))))))) Qv5 (zc hcH Qv5) @A6w (ed fun hp hpc=>?_)
      all_goals
       exact Weak.headN (H1.length+2) 55 [0,3,5,6,9,10,11] (zWs (zc @inF @A1s))
     refine zM (stop 7) (zc @eA (zc @eB (zc @A0W (zc @hfl (zc @htk12 (zc @Zv.{0} (zc @sA (zc @sB (zc @hst (zc @A4r Qv5)))))))))) Qv5 Qv5 Qv5 (ed fun hp hpc=>?_);refine AWp.seq (AWp.of_adr (by kernel_rfl) ?_);refine ADr.seg' 2 1 [(38,.c (.slice (A0U L) .none))] (by kernel_rfl) (by kernel_rfl) rfl (.inl ⟨rfl,(A4C _ (.inl rfl)).n⟩) (zQ Qv5) (by rintro r H' ⟨rfl,rfl⟩; exact zQ Qv5) ?_;rintro r H' ⟨rfl,rfl⟩;simp only [A0Z,A1a,aeval,YQ,Yy,List.set_cons_succ,List.set_cons_zero];by_cases hjn:rt a0=rt b0
     ·
      rw [decide_eq_true hjn,Qq4] at hJ;refine ADr.run 4 (by kernel_rfl) (by decide) (fun K hK=> ?_);simp only [Nat.reduceAdd,Zy,Yq,List.take_succ_cons,List.take_zero];refine zM Qv5 (zc @hltI (zc @e1 (zc @A0z Qv5))) Qv5 (zc hJ Qv5) Qv5 (ed fun hp hpc=>?_)
      try simp only [Nat.reduceAdd]
      refine ADr.seg' 16 15 [(44,.tup []),(45,.tup []),(46,.tup []),(47,.tup []),(48,.tup []),(49,.tup []),(50,.tup []),(51,.tup []),(52,.tup [])] (by kernel_rfl) (by kernel_rfl) rfl (R:=fun r H=>r= .tup []∧H=_) (.inr ⟨rfl,rfl,rfl⟩) zQs (by rintro r H' ⟨rfl,rfl⟩; exact zQs) ?_;rintro r H' ⟨rfl,rfl⟩;simp only [A0Z,A1a,aeval,YQ,Yy,List.set_cons_succ,List.set_cons_zero];refine ADr.run 1 (by kernel_rfl) (by decide) (fun K hK=> ?_);simp only [Nat.reduceAdd,Zy,Yq,List.take_succ_cons,List.take_zero];refine zM trivial trivial trivial trivial trivial (ed fun hp hpc=>?_)
      try simp only [Nat.reduceAdd]
      refine ADr.done (by decide) ?_;have hna: ¬acyc (pkN L (t++[a])):=fun h=>by rw [hpk,A2D] at h; exact h.2 (hjc.1 hjn)
      rw [if_neg hna,List.nil_append] at hgs;rw [hgs] at hcnt hxa;refine zR Qv5 Qv5 Qv5 ?_;refine ⟨(a+1,k),Weak.headN (H1.length+2) 55 [0,3,5,6,9,10,11] (zWs (zc @inF @A1s)),?_,?_⟩
      ·exact ⟨by omega,hlt,hcnt,hxa⟩
      ·simp only; omega
     ·
      rw [decide_eq_false hjn,Qx8] at hJ;refine ADr.run 4 (by kernel_rfl) (by decide) (fun K hK=> ?_);simp only [Nat.reduceAdd,Zy,Yq,List.take_succ_cons,List.take_zero];refine zM Qv5 (zc @hltI (zc @e1 (zc @A0z Qv5))) Qv5 (zc hJ Qv5) Qv5 (ed fun hp hpc=>?_)
      try simp only [Nat.reduceAdd]
      have hya:acyc (pkN L (t++[a])):=by rw [hpk,A2D]; exact ⟨hac,fun h=>hjn (hjc.2 h)⟩
      rw [if_pos hya] at hgs;rw [hgs] at hcnt hxa;have hch:chunks 1 1 [Tree.int .i64 (a:Int)]=[[Tree.int .i64 (a:Int)]]:=rfl;have hrg: -9223372036854775808≤(a:Int)+1∧(a:Int)+1≤9223372036854775807:=by omega
      have hfl2:(F.set (rt a0) (rt b0)).length=12:=by rw [Yz]; exact hfl
      have hfn:=hG.fn [.box (fC F),.box (fC (F.set (rt a0) (rt b0))),.box [.int .i64 (a0:Int),.int .i64 (b0:Int)]];have h51:=eB [.box (fC F),.box (fC (F.set (rt a0) (rt b0))),.box [.int .i64 (a0:Int),.int .i64 (b0:Int)]];refine ADr.seg' 14 10 [(44,.c (.fn 126 (growCaps n L))),(45,.c (.vec (j+1) t.length cap)),(46,.c (.int .i64 (a:Int))),(47,.c (.slice [[.int .i64 (a:Int)]] .exact)),(49,.c (.int .i64 (a:Int))),(50,.c (.int .i64 ((a:Int)+1))),(51,.agg (fC (F.set (rt a0) (rt b0))))] (by kernel_rfl) (by kernel_rfl) rfl
       (.inl ⟨rfl,A8S (e:=3) (e2:=3) (by':=8) (z:= .int .i64 0) (used:=nC t) (tr:= .int .i64 (a:Int)) (tok:= .exact) rfl (by simp only [ty]) (by simp only [ty]) (by simp only [ty]) (by simp only [ty]) rfl (by simp only [ty]) rfl ?_ (B32 t) hcap rfl (by omega) (by omega)⟩) ?_ ?_ ?_
      ·rcases hV with ⟨h1,h2⟩ | ⟨h1,h2⟩
       ·exact .inl ⟨h1,by rw [h2]; rfl⟩
       ·exact .inr (by rw [List.getElem?_cons_succ,Qw hj]; exact h2)
      ·exact zQ (Qv4 hfn (Qv4 h51 (Qv4 htk2 (Qv4 hch (Qv4 hrg (Qv4 hfl2 (Qv4 A0W Qv3)))))))
      ·rintro r H' (⟨hlc,rfl,rfl⟩ | ⟨cap',hc',rfl,rfl⟩)
       ·obtain ⟨h2j,hVj⟩:=hV.resolve_left fun h=>by omega
        have e:(.ghost (J k)::(H1++[.box (fC F),.box (fC (F.set (rt a0) (rt b0))),.box [.int .i64 (a0:Int),.int .i64 (b0:Int)]]):List Blk).set (j+1) (.box (nC t++[cellOf (.int .i64 (a:Int))]++List.replicate (cap-(t.length+1)) .any))= .ghost (J k)::(H1.set j (.box (nC (t++[a])++List.replicate (cap-(t.length+1)) .any))++[.box (fC F),.box (fC (F.set (rt a0) (rt b0))),.box [.int .i64 (a0:Int),.int .i64 (b0:Int)]]):=by
         rw [List.set_cons_succ,Qx6 _ _ hj,<-B1Z]; rfl
        have hGp:=hG.put h2j (B:= .box (nC (t++[a])++List.replicate (cap-(t.length+1)) .any)) (C0Y _ (by simp)) (fun m=>C5F _ _);have hfn':=hGp.fn [.box (fC F),.box (fC (F.set (rt a0) (rt b0))),.box [.int .i64 (a0:Int),.int .i64 (b0:Int)]];have h51':(H1.set j (.box (nC (t++[a])++List.replicate (cap-(t.length+1)) .any))++[.box (fC F),.box (fC (F.set (rt a0) (rt b0))),.box [.int .i64 (a0:Int),.int .i64 (b0:Int)]])[H1.length+1]? =some (Blk.box (fC (F.set (rt a0) (rt b0)))):=by
         rw [QW (by rw [Yz]; omega),Yz,show H1.length+1-H1.length=1 by omega]; rfl
        rw [e];exact zQ (Qv4 hfn' (Qv4 h51' (Qv4 htk2 (Qv4 hch (Qv4 hrg (Qv4 hfl2 (Qv4 A0W Qv3)))))))
       ·have hfn':=hG.fn [.box (fC F),.box (fC (F.set (rt a0) (rt b0))),.box [.int .i64 (a0:Int),.int .i64 (b0:Int)],.box (nC t++[cellOf (.int .i64 (a:Int))]++List.replicate (cap'-(t.length+1)) .any)];have h51':=eB [.box (fC F),.box (fC (F.set (rt a0) (rt b0))),.box [.int .i64 (a0:Int),.int .i64 (b0:Int)],.box (nC t++[cellOf (.int .i64 (a:Int))]++List.replicate (cap'-(t.length+1)) .any)];simp only [List.cons_append,Zv,List.nil_append] at hfn' h51' ⊢;exact zQ (Qv4 hfn' (Qv4 h51' (Qv4 htk2 (Qv4 hch (Qv4 hrg (Qv4 hfl2 (Qv4 A0W Qv3)))))))
      ·have hxn: ∀i T,(A18 n L (L.length-(a+1)) (t++[a]) (a+1))[i]? =some T->xs[k+i]? =some [A6e T]:=fun i T h=>
        hxa i T (by rw [Qw (Qx.1 h).1]; exact h)
       have hxr: ∀i T,(A18 n L (L.length-(a+1)) t (a+1))[i]? =some T->xs[(k+(A18 n L (L.length-(a+1)) (t++[a]) (a+1)).length)+i]? =some [A6e T]:=fun i T h=>by
        have:=hxa ((A18 n L (L.length-(a+1)) (t++[a]) (a+1)).length+i) T (by rw [QW (Nat.le_add_right _ _),Nat.add_sub_cancel_left]; exact h);rwa [<-Wx] at this
       have hcr:(k+(A18 n L (L.length-(a+1)) (t++[a]) (a+1)).length)+(A18 n L (L.length-(a+1)) t (a+1)).length=k0+(A18 n L fuel t e).length:=by
        rw [<-hcnt,Xv]; omega
       have htl2: ∀x,x∈t++[a]->x<L.length:=fun x hx=>by
        rcases XZ.1 hx with hx | hx
        ·exact htL x hx
        ·rw [XQ] at hx; omega
       have el:(t++[a]).length=t.length+1:=by simp
       have ei:((a+1:Nat):Int)=(a:Int)+1:=by omega
       have okX: ∀b,b∈([.box (fC F),.box (fC (F.set (rt a0) (rt b0))),.box [.int .i64 (a0:Int),.int .i64 (b0:Int)]]:List Blk)->okBlk b:=fun b hb=>by
        simp only [QV,XJ,or_false] at hb;rcases hb with rfl | rfl | rfl
        ·exact okF (H1:=[]) (by simp) hfl _ (by simp)
        ·exact okF (H1:=[]) (by simp) hfl2 _ (by simp)
        ·exact trivial
       have inX: ∀b,b∈([.box (fC F),.box (fC (F.set (rt a0) (rt b0))),.box [.int .i64 (a0:Int),.int .i64 (b0:Int)]]:List Blk)-> ∀m,blkIn m b:=fun b hb m=>by
        simp only [QV,XJ,or_false] at hb;rcases hb with rfl | rfl | rfl
        ·exact A1s
        ·exact A1s
        ·intro c hc;simp only [QV,XJ,or_false] at hc;rcases hc with rfl | rfl<;>exact trivial
       rintro r H' (⟨hlc,rfl,rfl⟩ | ⟨cap',hc',rfl,rfl⟩)
       ·obtain ⟨h2j,hVj⟩:=hV.resolve_left fun h=>by omega
        have e:(.ghost (J k)::(H1++[.box (fC F),.box (fC (F.set (rt a0) (rt b0))),.box [.int .i64 (a0:Int),.int .i64 (b0:Int)]]):List Blk).set (j+1) (.box (nC t++[cellOf (.int .i64 (a:Int))]++List.replicate (cap-(t.length+1)) .any))= .ghost (J k)::(H1.set j (.box (nC (t++[a])++List.replicate (cap-(t.length+1)) .any))++[.box (fC F),.box (fC (F.set (rt a0) (rt b0))),.box [.int .i64 (a0:Int),.int .i64 (b0:Int)]]):=by
         rw [List.set_cons_succ,Qx6 _ _ hj,<-B1Z]; rfl
        have hGp:=hG.put h2j (B:=(.box (nC (t++[a])++List.replicate (cap-(t.length+1)) .any))) (C0Y _ (by simp)) (fun m=>C5F _ _);have hcall:=ih (L.length-(a+1)) (by omega) (t++[a]) (a+1) (F.set (rt a0) (rt b0)) k (H1.set j (.box (nC (t++[a])++List.replicate (cap-(t.length+1)) .any))++[.box (fC F),.box (fC (F.set (rt a0) (rt b0))),.box [.int .i64 (a0:Int),.int .i64 (b0:Int)]]) j cap (by omega) tn hya htl2 (by omega) hxn (hGp.app okX inX) (.inr ⟨h2j,by rw [el,Qw (by rw [Yz]; exact hj),QX hj]⟩) (by rw [Xv,Yz]; omega) (by omega);rw [el,ei] at hcall;rw [e];simp only [A0Z,A1a,aeval,YQ,Yy,List.set_cons_succ,List.set_cons_zero];refine ADr.one' (by kernel_rfl) rfl (.inl ⟨rfl,A7p rfl rfl hcall⟩) ?_;rintro r H' (⟨rfl,rfl⟩ | ⟨rfl,rfl⟩)
        ·
         simp only [A0Z,A1a,aeval,YQ,Yy,List.set_cons_succ,List.set_cons_zero];refine ADr.run 2 (by kernel_rfl) (by decide) (fun K hK=> ?_);simp only [Nat.reduceAdd,Zy,Yq,List.take_succ_cons,List.take_zero];refine zM trivial trivial trivial trivial trivial (ed fun hp hpc=>?_)
         try simp only [Nat.reduceAdd]
         refine ADr.done (by decide) (A2G.n ?_);refine AWp.cellAny (j+1) t.length (cs:=nC (t++[a])++List.replicate (cap-(t.length+1)) .any) (by rw [List.getElem?_cons_succ,Qw (by rw [Yz]; exact hj),QX hj]) ?_;rw [C0Z hlc,B6t hVj];refine zR Qv5 Qv5 Qv5 ?_;refine ⟨(a+1,k+(A18 n L (L.length-(a+1)) (t++[a]) (a+1)).length),Weak.headN (H1.length+2) 55 [0,3,5,6,9,10,11] (zWs (zc @inF @A1s)),?_,?_⟩
         ·exact ⟨by omega,hlt,hcr,hxr⟩
         ·simp only; omega
        ·
         simp only [A0Z,A1a,aeval,YQ,Yy,List.set_cons_succ,List.set_cons_zero];refine ADr.run 2 (by kernel_rfl) (by decide) (fun K hK=> ?_);simp only [Nat.reduceAdd,Zy,Yq,List.take_succ_cons,List.take_zero];refine zM trivial trivial trivial trivial trivial (ed fun hp hpc=>?_)
         try simp only [Nat.reduceAdd]
         refine ADr.done (by decide) (A2G.n ?_);refine AWp.cellAny (j+1) t.length (cs:=nC (t++[a])++List.replicate (cap-(t.length+1)) .any) (by rw [List.getElem?_cons_succ,Qw (by rw [Yz]; exact hj),QX hj]) ?_;rw [C0Z hlc,B6t hVj];refine zR Qv5 Qv5 Qv5 ?_;exact ⟨trivial,_,⟨_,.inr ⟨rfl,rfl⟩⟩,by simp [A2f,A0o,A2e,Tryz.results126]⟩
       ·have el2:(.ghost (J k)::(H1++[.box (fC F),.box (fC (F.set (rt a0) (rt b0))),.box [.int .i64 (a0:Int),.int .i64 (b0:Int)]]):List Blk).length=(H1.length+3)+1:=by simp
        have e:(.ghost (J k)::(H1++[.box (fC F),.box (fC (F.set (rt a0) (rt b0))),.box [.int .i64 (a0:Int),.int .i64 (b0:Int)]]):List Blk)++[.box (nC t++[cellOf (.int .i64 (a:Int))]++List.replicate (cap'-(t.length+1)) .any)]= .ghost (J k)::(H1++[.box (fC F),.box (fC (F.set (rt a0) (rt b0))),.box [.int .i64 (a0:Int),.int .i64 (b0:Int)]]++[.box (nC (t++[a])++List.replicate (cap'-(t.length+1)) .any)]):=by
         rw [<-B1Z]; rfl
        have hcall:=ih (L.length-(a+1)) (by omega) (t++[a]) (a+1) (F.set (rt a0) (rt b0)) k (H1++[.box (fC F),.box (fC (F.set (rt a0) (rt b0))),.box [.int .i64 (a0:Int),.int .i64 (b0:Int)]]++[.box (nC (t++[a])++List.replicate (cap'-(t.length+1)) .any)]) (H1.length+3) cap' (by omega) tn hya htl2 (by omega) hxn
         ((hG.app okX inX).app (fun b hb=>by rw [XQ] at hb; subst hb; exact C0Y _ (by simp)) (fun b hb m=>by rw [XQ] at hb; subst hb; exact C5F _ _))
         (.inr ⟨by have:=hG.len; omega,by rw [el,QW (by simp)]; simp⟩) (by simp) (by omega)
        rw [el,ei] at hcall;rw [e,el2];simp only [A0Z,A1a,aeval,YQ,Yy,List.set_cons_succ,List.set_cons_zero];refine ADr.one' (by kernel_rfl) rfl (.inl ⟨rfl,A7p rfl rfl hcall⟩) ?_;rintro r H' (⟨rfl,rfl⟩ | ⟨rfl,rfl⟩)
        ·
         simp only [A0Z,A1a,aeval,YQ,Yy,List.set_cons_succ,List.set_cons_zero];refine ADr.run 2 (by kernel_rfl) (by decide) (fun K hK=> ?_);simp only [Nat.reduceAdd,Zy,Yq,List.take_succ_cons,List.take_zero];refine zM trivial trivial trivial trivial trivial (ed fun hp hpc=>?_)
         try simp only [Nat.reduceAdd]
         refine ADr.done (by decide) (A2G.n ?_);rw [Zv];refine zR Qv5 Qv5 Qv5 ?_;refine ⟨(a+1,k+(A18 n L (L.length-(a+1)) (t++[a]) (a+1)).length),Weak.headN (H1.length+2) 55 [0,3,5,6,9,10,11] (zWs (zc @inF @A1s)),?_,?_⟩
         ·exact ⟨by omega,hlt,hcr,hxr⟩
         ·simp only; omega
        ·
         simp only [A0Z,A1a,aeval,YQ,Yy,List.set_cons_succ,List.set_cons_zero];refine ADr.run 2 (by kernel_rfl) (by decide) (fun K hK=> ?_);simp only [Nat.reduceAdd,Zy,Yq,List.take_succ_cons,List.take_zero];refine zM trivial trivial trivial trivial trivial (ed fun hp hpc=>?_)
         try simp only [Nat.reduceAdd]
         refine ADr.done (by decide) (A2G.n ?_);rw [Zv];refine zR Qv5 Qv5 Qv5 ?_;exact ⟨trivial,_,⟨_,.inr ⟨rfl,rfl⟩⟩,by simp [A2f,A0o,A2e,Tryz.results126]⟩
    ·rw [decide_eq_false hc1] at hcH;have hg0:=C0A (by omega) hL (k:=L.length-a) hac htL (by omega) hc1;rw [hg0,List.length_nil,Nat.add_zero] at hcnt;refine zM (stop 7) (zc @hltI (zc @A0z (zc @hdr (zc @htp (zc @eA (zc @eB (zc @A0W (zc @hfl (zc @htk12 Qv5))))))))) Qv5 (zc hcH Qv5) @A6w (ed fun hp hpc=>?_)
     all_goals exact ⟨trivial,_,⟨_,.inl ⟨rfl,by rw [hcnt]⟩⟩,by simp [A2f,A0o,A2e,Tryz.results126]⟩
   ·have ea:a=L.length:=by omega
    subst ea;have hnl: ¬((L.length:Int)<L.length):=by omega
    rw [Jv,A18,if_neg hfull,List.length_nil,Nat.add_zero] at hcnt;refine zJ (stop 7) (zc @hnl (zc @A0z Qv5)) Qv5 Qv5 Qv5 ?_;exact ⟨trivial,_,⟨_,.inl ⟨rfl,by rw [hcnt]⟩⟩,by simp [A2f,A0o,A2e,Tryz.results126]⟩
def B7U (n:Nat) (hn:n=1) (L:List (Int×Int)) (l:Nat) (J:Nat->Sig->World->Prop) (Jx:Sig->World->Prop) (hJ: ∀k,Clo (J k)) (hJx:Clo Jx)
  (hY:YStep Tryz.prog l (J 0) [A6e []] (J 1) Jx) (F:List Nat) (hfl:F.length=12) (H1:List Blk) (hG:GH l n L H1):
   ACallE Tryz.prog 126 (.ghost (J 0)::H1) ([.c .nils,.c (.int .i64 0),.agg (fC F)]++(growCaps n L).map A4F)
    (fun H' r=> ∃X,(r= .c (.bool true)∧H'= .ghost (J 1)::(H1++X))∨(r= .c (.bool false)∧H'= .ghost Jx::(H1++X))):=by
 subst hn;refine ACallE.of_body Tryz.func126 rfl (by kernel_rfl) ?_;simp only [entry,growCaps,A4F,A0v,XY,ZQ,Tryz.ntmps126,List.length_cons,List.length_nil,Nat.reduceAdd,Nat.reduceSub,List.replicate_succ,List.replicate_zero,List.cons_append,List.nil_append];have hC:ACallH Tryz.prog 127 (.ghost (J 0)::(H1++[.box (fC F)])) [.c .nils] (.ghost (J 0)::(H1++[.box (fC F)])) (ofT (A6e [])):=ACall.h B7L rfl;have hy:=hG.yld [.box (fC F)];refine zJ (stop 2) (zc @A0W (zc @hfl Qv5)) Qv5 Qv5 Qv5 ?_;refine AWp.seq (AWp.of_adr (by kernel_rfl) ?_);refine ADr.seg' 3 2 [(18,.c (.yld l)),(19,.c .nils)] (by kernel_rfl) (by kernel_rfl) rfl (.inl ⟨rfl,(A3c _ _ _ rfl 127 [] rfl _ hC).n⟩) (zQ hy) (by rintro r H' ⟨rfl,rfl⟩; exact zQ hy) ?_;rintro r H' ⟨rfl,rfl⟩;simp only [A0Z,A1a,aeval,YQ,Yy,List.set_cons_succ,List.set_cons_zero];refine ADr.one' (by kernel_rfl) rfl (.inl ⟨rfl,B0q (ts:=[A6e []]) rfl rfl rfl (okF hG.ok hfl) hY (hJ _) hJx⟩) ?_;rintro r H' (⟨rfl,rfl⟩ | ⟨rfl,rfl⟩)
 ·
  simp only [A0Z,A1a,aeval,YQ,Yy,List.set_cons_succ,List.set_cons_zero];refine ADr.run 1 (by kernel_rfl) (by decide) (fun K hK=> ?_);simp only [Nat.reduceAdd,Zy,Yq,List.take_succ_cons,List.take_zero];refine zM trivial trivial trivial trivial trivial (ed fun hp hpc=>?_)
  try simp only [Nat.reduceAdd]
  refine ADr.done (by decide) ?_;refine zR Qv5 Qv5 Qv5 ?_;exact ⟨trivial,_,⟨_,.inl ⟨rfl,rfl⟩⟩,by simp [A2f,A0o,A2e,Tryz.results126]⟩
 ·
  simp only [A0Z,A1a,aeval,YQ,Yy,List.set_cons_succ,List.set_cons_zero];refine ADr.run 1 (by kernel_rfl) (by decide) (fun K hK=> ?_);simp only [Nat.reduceAdd,Zy,Yq,List.take_succ_cons,List.take_zero];refine zM trivial trivial trivial trivial trivial (ed fun hp hpc=>?_)
  try simp only [Nat.reduceAdd]
  refine ADr.done (by decide) ?_;refine zR Qv5 Qv5 Qv5 ?_;exact ⟨trivial,_,⟨_,.inr ⟨rfl,rfl⟩⟩,by simp [A2f,A0o,A2e,Tryz.results126]⟩
noncomputable def allT (n:Nat) (L:List (Int×Int)):List (List Nat):=A18 n L L.length [] 0
noncomputable def A2L (n:Nat) (L:List (Int×Int)):List (List TVal):=(allT n L).map fun T=>[A6e T]
def B1c (n:Nat) (L:List (Int×Int)):(A2L n L).length=(allT n L).length:=by simp [A2L]
def B1d {n:Nat} {L:List (Int×Int)} {i:Nat} {ts:List TVal} (h:(A2L n L)[i]? =some ts): ∃T,(allT n L)[i]? =some T∧ts=[A6e T]:=by
 unfold A2L at h;rw [QQ] at h;cases hx:(allT n L)[i]? with
 | none=>rw [hx] at h; cases h
 | some T=>rw [hx] at h; simp at h; exact ⟨T,rfl,h.symm⟩
def C1n {n:Nat} {L:List (Int×Int)} {m:Nat} (hm:m=1) (k:Nat) (ts:List TVal) (h:(A2L n L)[k]? =some ts):ts.length=m:=by
 obtain ⟨p,_,rfl⟩:=B1d h; exact hm.symm
def A9L (n:Nat) (L:List (Int×Int)):growCaps n L=[.tree (.rptr [.int .i64 (n:Int)]),.ptr 1 0,.tree (.rptr [.slice (A0U L)]),.ptr 2 0]:=rfl
def C1o (n:Nat) (h0:0<n) (hn:n≤12) (L:List (Int×Int)) (hL:InN n L) (hLl:L.length<2^20):AIter Tryz.prog 125 [.rptr [.int .i64 (n:Int)],.rptr [.slice (A0U L)]] (A2L n L):=by
 have hg:=A99;have hr12:(List.range 12).length=12:=Vy;have hz0:=TDe.zero n hn;generalize hR:List.range 12=R at*;have hof:(fT R).map A0v=fC R:=B7x R;refine AIter.of_body Tryz.func125 rfl (by kernel_rfl) rfl (fun l J Jx hJ hJx hY=> ?_);simp only [entry,Tryz.ntmps125,ofT,A3v,A0v,XY,ZQ,List.length_cons,List.length_nil,Nat.reduceAdd,Nat.reduceSub,List.replicate_succ,List.replicate_zero,List.cons_append,List.nil_append];refine zJ (stop 3) trivial trivial trivial trivial ?_;have hGH:GH l n L [.box [.yld l],.box [.fn 126 (growCaps n L)]]:=by
  refine ⟨fun X=>rfl,fun X=>rfl,fun b hb=> ?_,fun b hb=> ?_,by simp⟩
  ·simp only [QV,XJ,or_false] at hb;rcases hb with rfl | rfl<;>exact trivial
  ·simp only [QV,XJ,or_false] at hb;rcases hb with rfl | rfl
   ·intro c hc;rw [XQ] at hc; subst hc; exact trivial
   ·intro c hc;rw [XQ] at hc; subst hc;intro x hx;simp only [growCaps,QV,XJ,or_false] at hx;rcases hx with rfl | rfl | rfl | rfl
    ·exact trivial
    ·exact (by decide:(1:Nat)<3)
    ·exact trivial
    ·exact (by decide:(2:Nat)<3)
 have hlo:ACallH Tryz.prog 123 [.ghost (J 0),.box [.yld l],.box [.fn 126 (growCaps n L)]] [] [.ghost (J 0),.box [.yld l],.box [.fn 126 (growCaps n L)]] (.agg (fC R)):=by
  have:=ACall.h hg (H:=[.ghost (J 0),.box [.yld l],.box [.fn 126 (growCaps n L)]]) (args:=[]) rfl;rw [show ofT (tF R)= .agg (fC R) from by simp only [tF,ofT,hof]] at this;exact this
 have hcall:ACallE Tryz.prog 126 [.ghost (J 0),.box [.yld l],.box [.fn 126 (growCaps n L)]] ([.c .nils,.c (.int .i64 0),.agg (fC R)]++(growCaps n L).map A4F)
   (fun H' r=> ∃X,H'= .ghost (J (A2L n L).length)::X∨H'= .ghost Jx::X):=by
  by_cases h1:n=1
  ·have ha:allT n L=[[]]:=B1a (by simp [h1]);have hi:A2L n L=[[A6e []]]:=by simp [A2L,ha]
   refine (B7U n h1 L l J Jx hJ hJx (hY 0 _ (by rw [hi]; rfl)) R hr12 _ hGH).mono ?_;rintro H' r ⟨X,⟨_,rfl⟩ | ⟨_,rfl⟩⟩
   ·rw [hi]; exact ⟨_,.inl rfl⟩
   ·exact ⟨_,.inr rfl⟩
  ·have hxs: ∀i T,(A18 n L L.length [] 0)[i]? =some T->(A2L n L)[0+i]? =some [A6e T]:=fun i T h=>by
    rw [XX]; unfold A2L;rw [QQ];show ((allT n L)[i]?).map _=_;unfold allT;rw [h]; rfl
   have hz1:TDe n (pkN L []) R:=hz0;have:=C5L n (by omega) hn L hL hLl l (A2L n L) J Jx hJ hJx hY L.length [] 0 R 0 [.box [.yld l],.box [.fn 126 (growCaps n L)]] 0 0 (by omega) hz1 A2P (fun x hx=>by simp at hx) (by simp; omega) hxs hGH (.inl ⟨rfl,rfl⟩) (by simp) (by simp);refine (ACallE.nil0 1 this (by simp)).mono ?_;rintro H' r (⟨_,rfl⟩ | ⟨_,rfl⟩)
   ·have e:0+(A18 n L L.length [] 0).length=(A2L n L).length:=by rw [B1c,XX]; rfl
    rw [e];exact ⟨_,.inl rfl⟩
   ·exact ⟨_,.inr rfl⟩
 refine AWp.of_adr (by kernel_rfl) ?_;refine ADr.seg' 2 1 [(6,.c (.fn 126 (growCaps n L)))] (by kernel_rfl) (by kernel_rfl) rfl (.inl ⟨rfl,(A3c _ _ _ rfl 123 [] rfl _ hlo).n⟩) (zQ (A9L n L)) (by rintro r H' ⟨rfl,rfl⟩; exact zQ (A9L n L)) ?_;rintro r H' ⟨rfl,rfl⟩;simp only [A0Z,A1a,aeval,YQ,Yy,List.set_cons_succ,List.set_cons_zero];refine ADr.one' (by kernel_rfl) rfl (.inl ⟨rfl,A7p rfl rfl hcall⟩) ?_;rintro r H' ⟨X,hX⟩;refine ADr.done (by decide) ?_;exact ⟨trivial,X,hX⟩
def C36 (n:Int) (L:List (Int×Int)):ACall Tryz.prog 77 [A0j n,A06 L] (.t (.fn 125 [.rptr [.int .i64 n],.rptr [.slice (A0U L)]])):=by
 refine ACall.of_body Tryz.func77 rfl (by kernel_rfl) ?_;simp only [entry,Tryz.ntmps77,A0j,A06];refine zU ?_;refine zR Qv5 Qv5 Qv5 ?_;simp [A0s,A0r,Blk.cells,ty,Tryz.results77,A0o,A0p,toT,A0d,A0b,A0c,A0a]
def tI (Ts:List (List Nat)):List (List Int):=Ts.map fun T=>T.map fun x:Nat=>(x:Int)
def B1e (Ts:List (List Nat)):(tI Ts).length=Ts.length:=by simp [tI]
def C5M (Ts:List (List Nat)) (T:List Nat):tI (Ts++[T])=tI Ts++[T.map fun x:Nat=>(x:Int)]:=by simp [tI]
noncomputable def treesG (g:G):List (List Nat):=allT g.n.toNat (endsL g.es)
def B5i (g:G) (hl:g.es.length≤40) (hT:(treesG g).length≤16384):ACall Tryz.prog 25 [tG g] (.tup [A05 (if A0m g≠0 then [] else tI (treesG g)),A0j (A0m g)]):=by
 have hgv:=B6d g hl;by_cases hj:A0m g=0
 case neg=>
  rw [if_pos hj] at hgv ⊢;generalize A0m g=E at*;obtain ⟨n,es⟩:=g;refine ACall.of_body Tryz.func25 rfl (by kernel_rfl) ?_;simp only [entry,Tryz.ntmps25,tG];refine zU ?_;refine zR (zc @hj Qv5) (zc hgv Qv5) Qv5 ?_;simp [A0s,A0r,Blk.cells,ty,Tryz.results25,A0o,A0p,toT,A0d,A0b,A0c,A0a,A0j,A05,A0n,A06]
 have hc:checkG g=0:=by
  unfold A0m at hj;split at hj
  ·assumption
  ·rename_i h; simpa using h
 rw [if_neg (by simpa using hj),hj] at hgv;rw [if_neg (by simpa using hj),hj];have h12:=(A0h.1 hc).1;obtain ⟨n,hn⟩:=Zx (show 0≤g.n by omega);have hin:InN n (endsL g.es):=fun p hp=>A1V hc hn p hp;have hll:(endsL g.es).length≤2000:=by
  have:=A61 (es:=g.es) fun e he=>by have:=(A0h.1 hc).2.1 e he; unfold okE at this; omega
  omega
 have ht1:=C1o n (by omega) (by omega) (endsL g.es) hin (by omega);have ht:=C36 (n:Int) (endsL g.es);have eT:treesG g=allT n (endsL g.es):=by unfold treesG; rw [show g.n.toNat=n by omega]
 rw [eT] at hT ⊢;clear eT h12 hc hj hin;obtain ⟨gn,es⟩:=g;simp only at hn hll ht ht1 hT ⊢;subst hn;generalize endsL es=L at*;have hiL:=B1c n L;have hinv:=fun (i:Nat) (ts:List TVal) (h:(A2L n L)[i]? =some ts)=>B1d h;have hps:=fun (k:Nat) (ts:List TVal) (h:(A2L n L)[k]? =some ts)=>C1n (m:=1) rfl k ts h;generalize allT n L=Ts at*;generalize A2L n L=IT at*;change ACall _ _ [tG ⟨((n:Nat):Int),es⟩] _ at hgv;show ACall _ _ [tG ⟨((n:Nat):Int),es⟩] _;refine ACall.of_body Tryz.func25 rfl (by kernel_rfl) ?_;simp only [entry,Tryz.ntmps25,tG];refine zU ?_;refine zR Qv5 (zc hgv (zc ht Qv5)) Qv5 ?_;refine AWp.weak (Weak.openB 3 0 1 rfl rfl (by omega)) ?_;simp only [List.set_cons_succ,List.set_cons_zero,List.length_cons,List.length_nil,Xv,Nat.reduceAdd,List.cons_append,List.nil_append];refine AWp.weak (Weak.head (m:=5) (by omega) ((fun t f=>[f,t,t,t,f,f,t,f,f,f,f,f,f,f,f,f,f,f,f,t,f,f,f,f,f,f,f,f,f]) true false) (by first | rfl | simp [mask]) (by first | rfl | simp) (zWs trivial) (zWs @A1s)) (AWp.rangeFunc (fun k H=>H=[.box [.int .i64 (n:Int),.slice (A0f es) .none],.box [.nils],.box [.int .i64 0],.box [.slice (A0n (tI (Ts.take k))) (.chain 4)],.chain (Ts.take k).length 1]∧(True)) (fun _ _=>False) 5 rfl (ht1) (hps) (by omega) (zWs trivial) (by rintro _ _ ⟨rfl,-⟩; simp) (fun _ _ h=>h.elim) ?_ (fun l k ts H hts hI=> ?_) (fun H hI=> ?_) (fun e H h=>h.elim))
 ·exact ⟨rfl,trivial⟩
 ·obtain ⟨rfl,-⟩:=hI;obtain ⟨T,hx,rfl⟩:=hinv _ _ hts;have hk:k<Ts.length:=(Qx.1 hx).1;have htl:(Ts.take k).length=k:=by rw [Wk]; omega
  have hsn:=take_snoc hx;have hrs:=A2x (tI (Ts.take k)) (T.map fun x:Nat=>(x:Int));rw [<-C5M,<-hsn] at hrs;have htl1:(Ts.take (k+1)).length=k+1:=by rw [Wk]; omega
  have hne: ¬((k:Int)=16384):=by omega
  simp only [mask,A45,List.zip_cons_cons,WV,List.zip_nil_left,List.foldl_cons,List.foldl_nil,List.set_cons_succ,List.set_cons_zero,ofT,A3v,A0v,XY,ZQ,ofT,A3v,toT,A0p,A0a,A0j,A0q,A3w,tG,A06,A0k,A6e];refine zRc (zc @A0i (zc @B1e (zc @htl (zc @hrs (zc @hne Qv5))))) Qv5 @A1F ?_;refine ⟨⟨_,_⟩,Weak.head2 (m:=5) (by decide) ((fun t f=>[f,f,f,f,f,f,f,f,f,f,f,f,f,f,f,f,f,f,f,f,f,f,f,f,f,f,f,f,f]) true false) rfl rfl (zWs @A1s),?_,?_⟩
  ·simp [htl1]
  ·trivial
 ·obtain ⟨rfl,-⟩:=hI;rw [hiL,Zz];simp only [mask];refine zR Qv5 Qv5 Qv5 ?_;simp [A0s,A0r,Blk.cells,ty,Tryz.results25,A0o,A0p,toT,A0d,A0b,A0c,A0a,A0j,A05]
def comp (E:Nat) (S:List Nat):List Nat:=(List.range E).filter fun y=>decide (¬y∈S)
section
variable {r:R}
end
def C5N (g:G):ACall Tryz.prog 59 [tG g] (A0q (A2p g 5 8)):=by
 have h:=C3o g 5 8;generalize A2p g 5 8=b at*;obtain ⟨n,es⟩:=g;refine ACall.of_body Tryz.func59 rfl (by kernel_rfl) ?_;simp only [entry,Tryz.ntmps59,tG];refine zU ?_;refine zR Qv5 (zc h Qv5) Qv5 ?_;simp [A0s,A0r,Blk.cells,ty,Tryz.results59,A0o,A0p,toT,A0d,A0b,A0c,A0a,A0q]
end Go.Proofs.YtdbdfkohpjefjaaGreat
