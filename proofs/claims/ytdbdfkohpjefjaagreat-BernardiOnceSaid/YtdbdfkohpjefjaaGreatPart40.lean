/- A part of the proof. -/
import Derived.Test.YtdbdfkohpjefjaaGreatPart36
set_option linter.all false
set_option maxHeartbeats 4000000
set_option maxRecDepth 100000
namespace Go.Proofs.YtdbdfkohpjefjaaGreat
open Go.Sp
theorem B2B (n q:Nat) (es:List E) (d s:List Int) {m:Nat} (hm:4≤m):A1s m [.box [.int .i64 (n:Int),.slice (A0f es) .none],.ro [.int .i64 (n:Int),.slice (A0f es)],.box (iC d),.box (iC s),.roC [.tree (.int .i64 (n:Int)),.tree (.slice (A0f es)),.tree (.int .i64 (q:Int)),.ref 2 1 0 n n,.ref 3 1 0 n n,.tree (.int .i64 0)]]:=by
 have hg:blkIn m (.box [.int .i64 (n:Int),.slice (A0f es) .none]):=by intro c hc; simp only [Qw,Qk,or_false] at hc; rcases hc with rfl | rfl<;>exact Qw7
 exact A0l hg (A0l Qw7 (A0l A1e (A0l A1e (A0l (A0G hm) (A0v _)))))
theorem B2C (v:Nat) (Q:List Nat):A0p (zI (v::Q))=[.int .i64 (v:Int)]::A0p (zI Q):=rfl
theorem B1k (n q:Nat) (es:List E) (d s:List Int) (h1:1≤n) (h12:n≤12) (hq:q<n) (hd:d.length=n) (hs:s.length=n) (hl:es.length≤40) (hm: ∀e,e∈es->(0≤e.a∧e.a<n)∧(0≤e.b∧e.b<n)∧0≤e.m∧e.m≤50) (B:List Int) (pB:Nat) (hB:DEnd es (A7C n q,[q],0) B pB) (hBl:B.length=n):
  ACallH Tryz.prog 158 [.box [.int .i64 (n:Int),.slice (A0f es) .none],.ro [.int .i64 (n:Int),.slice (A0f es)],.box (iC d),.box (iC s),.roC [.tree (.int .i64 (n:Int)),.tree (.slice (A0f es)),.tree (.int .i64 (q:Int)),.ref 2 1 0 n n,.ref 3 1 0 n n,.tree (.int .i64 0)]] [.c (.ptr 4 0)] (([.box [.int .i64 (n:Int),.slice (A0f es) .none],.ro [.int .i64 (n:Int),.slice (A0f es)],.box (iC d),.box (iC s),.roC [.tree (.int .i64 (n:Int)),.tree (.slice (A0f es)),.tree (.int .i64 (q:Int)),.ref 2 1 0 n n,.ref 3 1 0 n n,.tree (.int .i64 0)]]++[.box (iC B)])++[.box [.ref 5 1 0 n n],.box [.slice [] (.tail 8 pB)],.chain pB 1]) (.c (.ref 5 1 0 n n)):=by
 have hlk:=fun H v h4=>B8T (H:=H) n q es v h4;have hI:=fun (v:Nat) (hv:v<n)=>B1T n es v (by omega) (fun e he=>by have:=hm e he; omega) (by omega);have hkb: ∀(v:Nat) x,x∈lnkL es v->0≤x.1∧x.1<n:=fun v x hx=>by
  obtain ⟨e,he,e1,_,e2⟩:=A7i hx;have:=hm e he;rcases e2 with ⟨_,e2⟩ | ⟨_,e2⟩<;>(rw [e2]; omega)
 have hqI:(q:Int)<(n:Int):=by omega
 have hRp:=B9f n (by omega) [.box [.int .i64 (n:Int),.slice (A0f es) .none],.ro [.int .i64 (n:Int),.slice (A0f es)],.box (iC d),.box (iC s),.roC [.tree (.int .i64 (n:Int)),.tree (.slice (A0f es)),.tree (.int .i64 (q:Int)),.ref 2 1 0 n n,.ref 3 1 0 n n,.tree (.int .i64 0)]] (fun b hb=>B2B n q es d s (m:=6) (by decide) b hb);have hdn:iC d≠[]:=B8S (by intro e; rw [e] at hd; simp at hd; omega);have hsn:iC s≠[]:=B8S (by intro e; rw [e] at hs; simp at hs; omega);have hne: ∀{x:List Int},x.length=n->iC x≠[]:=fun {x} hx=>B8S (by intro e; rw [e] at hx; simp at hx; omega);have hrl:(List.replicate n (-1):List Int).length=n:=by simp
 have hr0:=A9V (List.replicate n (-1)) q 0;have hr0':(iC (List.replicate n (-1))).set q (.int .i64 0)=iC (A7C n q):=hr0;have hw0:=B5v (es:=es) hq;simp only [List.cons_append,List.nil_append] at hRp ⊢;refine ACallH.of_body Tryz.func158 rfl (by kernel_rfl) ?_;simp only [entry,Tryz.ntmps158,List.length_cons,List.length_nil,Nat.reduceAdd,Nat.reduceSub,List.replicate_succ,List.replicate_zero,List.cons_append,List.nil_append];refine zJc Qw9 (zc @hqI (zc @hr0' (zc @hrl (zc @A12 (zc @Xy Qw9))))) Qw9 (zc hRp Qw9) Qw9 ?_;refine AWp.weak (Weak.tailB 7 0 1 rfl rfl (by simp)) ?_;simp only [List.set_cons_succ,List.set_cons_zero,List.length_cons,List.length_nil,Xv,Nat.reduceAdd,List.cons_append,List.nil_append];refine AWp.loopS (α:=BS3) 56 (fun w=>[(0,.c (.ptr 4 0)),(3,.c (.ptr 6 0)),(4,.c (.ptr 7 0))]) (fun w=>[.box [.int .i64 (n:Int),.slice (A0f es) .none],.ro [.int .i64 (n:Int),.slice (A0f es)],.box (iC d),.box (iC s),.roC [.tree (.int .i64 (n:Int)),.tree (.slice (A0f es)),.tree (.int .i64 (q:Int)),.ref 2 1 0 n n,.ref 3 1 0 n n,.tree (.int .i64 0)],.box (iC w.1),.box [.ref 5 1 0 n n],.box [.slice (A0p (zI w.2.1)) (.tail 8 w.2.2)],.chain w.2.2 1]) (fun w=>DEnd es w B pB∧BFq es n q w.1 w.2.1∧2*cntNeg w.1+w.2.1.length≤30) (fun w=>2*cntNeg w.1+w.2.1.length) ((A7C n q,[q],0)) (hk:=Weak.headL 9 56 [0,3,4] (zV3 @A1e @A0F @A0G)) (h0:=?_) (round:=fun w hI=>?_)
 ·refine ⟨hB,hw0,?_⟩;have:=hw0.bnd q hq;have:=hw0.q0;show 2*cntNeg (A7C n q)+1≤30;omega
 ·obtain ⟨o,Q,p⟩:=w;obtain ⟨hE,hF,hQb⟩:=hI;simp only at hE hF hQb ⊢;cases Q with
  | nil=>
   cases hE;have e0:(A0p (zI ([]:List Nat))).length=0:=rfl;have e1:A0p (zI ([]:List Nat))=[]:=rfl;refine zR (zc @e0 (zc @e1 Qw9)) Qw9 Qw9 ?_;simp [A4D,A1Y,A0s,A1X,Tryz.results158]
  | cons v Q=>
   have hP:=hF.pop;have hvn:=hP.vv.1;have hvI:(v:Int)<(n:Int):=by omega
   cases hE with
   | go hE=>
   have hall:=PBq.all (s:=(o,Q,p)) (hkb v) hP;have hcn:=PBq.cnt (s:=(o,Q,p)) (hkb v) hP;have hIk:=hI v hvn;have hkbv:=hkb v;have el:(0:Int)<((Q.length+1:Nat):Int):=by omega
   have hneJ: ∀l,iC (List.foldl (stepD v) (o,Q,p) l).1≠[]:=fun l=>hne ((B25 v l (o,Q,p)).trans hF.len);rw [B2C];have hQl:=hF.len
   repeat' (first|((with_reducible refine AWp.seq (AWp.of_reg (id:=6) (AReg.pre 1 (fun K hK=>?_))));simp only [List.take_succ_cons,List.take_zero])|((with_reducible refine AWp.of_reg (id:=6) (AReg.pre 1 (fun K hK=>?_)));simp only [List.take_succ_cons,List.take_zero])|((first|(refine zT ?_;intro K' hK')|(refine zG ?_ ?_<;>(try refine zH ?_)<;>intro hguard<;>(try exact zX)<;>try intro K' hK'))<;>((try simp+contextual only [go_sem,el,A0e,A35,Int.toNat_natCast]);(repeat' first|(with_reducible refine hK' _ _ ?_;clear hK' K')|exact zY|with_reducible refine Qw8 ?_ ?_|(with_reducible intro hpath;try exact zP)|(refine hK' _ _ ?_;clear hK' K')|fail);try refine zS ?_))|(refine zE ?_;refine hK _ _ ?_;clear hK K)|(refine zN ?_;try refine zS ?_)|refine zA ?_|(refine zB ?_;intro K hK)|(refine zC ?_ ?_<;>(try refine zH ?_)<;>intro hcond<;>try exact zX)|fail)
   simp only [Zw,ZW];refine AReg.step rfl rfl (A78 (k:=1) (i:=8) (p:=p) (rows:=[.int .i64 (v:Int)]::A0p (zI Q)) (l:=1) _ _ _ rfl 3 (by simp only [ty]) (by simp only [ty]) (.inr rfl) rfl (fun r hr=>by rcases Qw.1 hr with rfl | hr; exact rfl; exact A1p hr) rfl (by decide) (by rw [List.length_cons]; omega)) ?_;simp only [A1f,List.set_cons_succ,List.set_cons_zero,Int.toNat_one,Zw,ZW];refine AReg.rest (fun K hK=> ?_)
   repeat' (first|((first|(refine zT ?_;intro K' hK')|(refine zG ?_ ?_<;>(try refine zH ?_)<;>intro hguard<;>(try exact zX)<;>try intro K' hK'))<;>((try simp+contextual only [go_sem,ofT,A2T,A04,Xk,Zj]);(repeat' first|(with_reducible refine hK' _ _ ?_;clear hK' K')|((with_reducible first|refine ⟨_,_,hlk _ _ rfl,?_⟩|refine ⟨_,hlk _ _ rfl,?_⟩);try simp+contextual only [go_sem,ofT,A2T,A04,Xk,Zj])|exact zY|with_reducible refine Qw8 ?_ ?_|(with_reducible intro hpath;try exact zP)|(refine hK' _ _ ?_;clear hK' K')|fail);try refine zS ?_))|(refine zE ?_;refine hK _ _ ?_;clear hK K)|(refine zN ?_;try refine zS ?_)|refine zA ?_|(refine zB ?_;intro K hK)|(refine zC ?_ ?_<;>(try refine zH ?_)<;>intro hcond<;>try exact zX)|fail)
   refine AWp.weak (Weak.head (m:=10) (by omega) ((fun t f=>[t,f,f,t,t,t,f,f,f,f,f,f,f,f,f,f,f,f,f,f,f,f,f,f,f,f,f,f,f,f,f,f,f,f,f,t,f,f,f,f,f,f,f,f,f,f,f,f,f,f,f,f,f,f,f,f]) true false) (by first | rfl | simp [mask]) (by first | rfl | simp) (by (repeat' (first | exact A0n _ | refine A0j ?_ ?_ | refine A0g ?_ ?_ | exact A0i _ | exact Qw7 | (show _<_; omega) | (intro c hc; cases hc; done) | (intro c hc; simp only [Qw,Qk,or_false] at hc; subst hc; first | exact Qw7 | (show _<_; omega)) | (intro c hc; simp only [Qw,Qk,or_false] at hc; rcases hc with rfl | rfl<;>first | exact Qw7 | (show _<_; omega))))) (by (repeat' (first | exact A0n _ | exact A0v _ | exact A0i _ | refine Qw8 ?_ ?_ | refine A0j ?_ ?_ | refine A0l ?_ ?_ | refine A0g ?_ ?_ | exact Qw7 | exact A1e | exact A0F | exact A0G (by omega) | (show _<_; omega) | exact A0q (fun _=>Qw7) | (intro c hc; cases hc; done) | (intro c hc; simp only [Qw,Qk,or_false] at hc; subst hc; first | exact Qw7 | exact A1e | exact A0F | exact A0G (by omega) | (show _<_; omega)) | (intro c hc; simp only [Qw,Qk,or_false] at hc; rcases hc with rfl | rfl<;>first | exact Qw7 | exact A1e | exact A0F | exact A0G (by omega) | (show _<_; omega)))))) (AWp.rangeFunc (fun j H=>H=[.box [.int .i64 (n:Int),.slice (A0f es) .none],.ro [.int .i64 (n:Int),.slice (A0f es)],.box (iC d),.box (iC s),.roC [.tree (.int .i64 (n:Int)),.tree (.slice (A0f es)),.tree (.int .i64 (q:Int)),.ref 2 1 0 n n,.ref 3 1 0 n n,.tree (.int .i64 0)],.box (iC (((lnkL es v).take j).foldl (stepD v) (o,Q,p)).1),.box [.ref 5 1 0 n n],.box [.slice (A0p (zI (((lnkL es v).take j).foldl (stepD v) (o,Q,p)).2.1)) (.tail 8 (((lnkL es v).take j).foldl (stepD v) (o,Q,p)).2.2)],.chain (((lnkL es v).take j).foldl (stepD v) (o,Q,p)).2.2 1,.box [.int .i64 (v:Int)]]∧(True)) (fun _ _=>False) 10 rfl (hIk) (B2n rfl) (by omega) (by (repeat' (first | exact A0n _ | refine A0j ?_ ?_ | refine A0g ?_ ?_ | exact A0i _ | exact Qw7 | (show _<_; omega) | (intro c hc; cases hc; done) | (intro c hc; simp only [Qw,Qk,or_false] at hc; subst hc; first | exact Qw7 | (show _<_; omega)) | (intro c hc; simp only [Qw,Qk,or_false] at hc; rcases hc with rfl | rfl<;>first | exact Qw7 | (show _<_; omega))))) (by rintro _ _ ⟨rfl,-⟩; simp [hdn,hsn,hneJ]) (fun _ _ h=>h.elim) ?_ (fun l j ts H hts hI=> ?_) (fun H hI=> ?_) (fun e H h=>h.elim))
   ·exact ⟨rfl,trivial⟩
   ·obtain ⟨rfl,-⟩:=hI;obtain ⟨x,hx,rfl⟩:=A6Z hts;have hj:j<(lnkL es v).length:=(Qx.1 hx).1;have hxb:=hkbv x (Qy hx);have hnx:=B6L v (o,Q,p) hx;have hPj:=hall j (by omega);have hcj:=hcn j (by omega);rw [List.length_cons] at hQb;have hlj:=hPj.len;have hbj:=hPj.bnd v hvn;have hcn0:=hPj.vv.2;have hqm:=hPj.qm;generalize ((lnkL es v).take j).foldl (stepD v) (o,Q,p)=sj at*;generalize hnj:((lnkL es v).take (j+1)).foldl (stepD v) (o,Q,p)=sj1 at*;obtain ⟨oj,Qj,pj⟩:=sj;obtain ⟨u,m⟩:=x;obtain ⟨u1,u2⟩:=hxb;obtain ⟨z,rfl⟩:=XW u1;have hzI:(z:Int)<(n:Int):=u2;unfold stepD at hnx;simp only [Int.toNat_natCast] at hnx hlj hbj hcj hcn0 ⊢;have g1:=A6t (A1t (d:=oj) (i:=z) (by omega));have g2:=A6t (A1t (d:=oj) (i:=v) (by omega));have hst:=A9V oj z (oj.getD v 0+1);generalize oj.getD z 0=oz at*;generalize oj.getD v 0=ov at*;simp only [mask,A4u,List.zip_cons_cons,WV,List.zip_nil_left,List.foldl_cons,List.foldl_nil,List.set_cons_succ,List.set_cons_zero,ofT,A2T,A04,Xk,Zj,ofT,A2T,toT,A0t,A0a,A0k,A0z,A3o,tG,A0C,A0m,B0b];by_cases hneg:oz<0
    ·rw [if_pos hneg] at hnx;have hzs:=B3M Qj z;have hzl:=A35 Qj;refine zRc (zc @hzI (zc @hvI (zc @g1 (zc @g2 (zc @hst (zc @hneg (zc @A12 (zc @hlj (zc @A0e (zc @A2p (zc @hzs (zc @hzl (zc @Xy Qw9))))))))))))) Qw9 @A1p ?_;refine ⟨⟨_,_⟩,Weak.head2 (m:=10) (by decide) ((fun t f=>[f,f,f,f,f,f,f,f,f,f,f,f,f,f,f,f,f,f,f,f,f,f,f,f,f,f,f,f,f,f,f,f,f,f,f,f,f,f,f,f,f,f,f,f,f,f,f,f,f,f,f,f,f,f,f,f]) true false) rfl rfl (zV3 @A1e @A0F @A0G),?_,?_⟩
     ·rw [hnj,hnx]; rfl
     ·trivial
    ·rw [if_neg hneg] at hnx;refine zR (zc @hzI (zc @g1 (zc @hneg (zc @A12 (zc @hlj (zc @Xy Qw9)))))) Qw9 Qw9 ?_;refine ⟨⟨_,_⟩,Weak.head2 (m:=10) (by decide) ((fun t f=>[f,f,f,f,f,f,f,f,f,f,f,f,f,f,f,f,f,f,f,f,f,f,f,f,f,f,f,f,f,f,f,f,f,f,f,f,f,f,f,f,f,f,f,f,f,f,f,f,f,f,f,f,f,f,f,f]) true false) rfl rfl (zV3 @A1e @A0F @A0G),?_,?_⟩
     ·rw [hnj,hnx]; rfl
     ·trivial
   ·obtain ⟨rfl,-⟩:=hI;rw [A6Y,Zy];have hd1:=hall _ (QQ _);have hc1:=hcn _ (QQ _);rw [Zy] at hd1 hc1;simp only [mask];refine zR Qw9 Qw9 Qw9 ?_;refine ⟨B7m es v (o,Q,p),Weak.headN 9 56 [0,3,4] (zV3 @A1e @A0F @A0G),?_,?_⟩
    ·refine ⟨hE,hd1.done,?_⟩;rw [List.length_cons] at hQb;show 2*cntNeg (B7m es v (o,Q,p)).1+(B7m es v (o,Q,p)).2.1.length≤30;have:2*cntNeg (B7m es v (o,Q,p)).1+(B7m es v (o,Q,p)).2.1.length≤2*cntNeg o+Q.length:=hc1;omega
    ·show 2*cntNeg (B7m es v (o,Q,p)).1+(B7m es v (o,Q,p)).2.1.length<2*cntNeg o+(v::Q).length;rw [List.length_cons];have:2*cntNeg (B7m es v (o,Q,p)).1+(B7m es v (o,Q,p)).2.1.length≤2*cntNeg o+Q.length:=hc1;omega
section
variable {n:Nat} {es:List E}
theorem C53 (h:EsOk n es) {v:Nat} {x:Int×Int} (hx:x∈lnkL es v):x.1.toNat<n∧x.1.toNat≠v∧0≤x.1:=by
 obtain ⟨e,he,_,hne,hab⟩:=A7i hx;have:=h.rng e he;rcases hab with ⟨q1,q2⟩ | ⟨q1,q2⟩<;>omega
def C6Q (R:List Bool):Nat->Bool:=fun v=>R.getD v false
def Led (n:Nat) (es:List E) (d0 d s:List Int):Prop:= ∀w,w<n->d.getD w 0=d0.getD w 0-lap n (mulE es) (fun u=>s.getD u 0) w
end
def C6w (far:List Int) (k:Int):List Bool:=far.map fun x=>decide (x<k)
section
variable {n:Nat} {es:List E}
structure LInv (n:Nat) (es:List E) (far d0:List Int) (k X:Int) (w:List Int×List Int):Prop where
 dl:w.1.length=n
 sl:w.2.length=n
 led:Led n es d0 w.1 w.2
 db:bndL X w.1
 sb:bndL X w.2
 sp: ∀v,0≤w.2.getD v 0
 don: ∀v,v<n->k<far.getD v 0->0≤w.1.getD v 0
def C62 (S:Nat->Bool):List E->Int
 | []=>0
 | e::es=>(if S e.a.toNat≠S e.b.toNat then e.m else 0)+C62 S es
def levF (es:List E) (far:List Int) (k:Nat):Int:=C62 (C6Q (C6w far (k:Int))) es
def powF (z:Nat->Int) (X:Int):Nat->Int
 | 0=>X
 | k+1=>powF z (X+z (k+1)*X) k
end
def A6C (l:List Int):Nat->Int
 | 0=>l.getD 0 0
 | k+1=>max (A6C l k) (l.getD (k+1) 0)
theorem B5y (l:List Int): ∀k i,i≤k->l.getD i 0≤A6C l k
 | 0,i,h=>by rw [show i=0 by omega]; exact Qx6 _
 | k+1,i,h=>by
  unfold A6C;by_cases e:i=k+1
  ·subst e; omega
  ·have:=B5y l k i (by omega); omega
theorem B5z (l:List Int): ∀k,∃i,i≤k∧A6C l k=l.getD i 0
 | 0=>⟨0,QQ _,rfl⟩
 | k+1=>by
  obtain ⟨i,h1,h2⟩:=B5z l k;unfold A6C;rcases Int.le_total (A6C l k) (l.getD (k+1) 0) with h | h
  ·exact ⟨k+1,QQ _,by omega⟩
  ·exact ⟨i,by omega,by omega⟩
theorem C54 (l:List Int) (hne:l≠[]) (hl:l.length<2^40):ACall Tryz.prog 160 [A0m l] (A0k (A6C l (l.length-1))):=by
 have hp:0<l.length:=Ww.2 hne;have e0:=Qq hp;have r0:=A0u e0;have d0:l.getD 0 0=l[0]:=by rw [Qz,e0]; rfl
 generalize l[0]=x0 at*;refine ACall.of_body Tryz.func160 rfl (by kernel_rfl) ?_;simp only [entry,Tryz.ntmps160,A0m];refine zU ?_;refine zR (zc @A0e (zc @r0 (zc @Int.toNat_zero Qw9))) Qw9 Qw9 ?_;have hx0:x0=A6C l 0:=d0.symm;rw [hx0];refine AWp.loopS (α:=Nat) 25 (fun i=>[(0,.c (.slice (A0p l) .none)),(3,.c (.int .i64 (A6C l i))),(4,.c (.int .i64 ((i:Int)+1)))]) (fun i=>[]) (fun i=>i<l.length) (fun i=>l.length-i) (0) (hk:=Weak.headL 0 25 [0,3,4] (zV3 @A1e @A0F @A0G)) (h0:=?_) (round:=fun i hI=>?_)
 ·exact hp
 ·by_cases hlt:i+1<l.length
  ·have hltI:(i:Int)+1<l.length:=by omega
   have e1:=Qq hlt;have r1:=A0u e1;have d1:l.getD (i+1) 0=l[i+1]:=by rw [Qz,e1]; rfl
   have hnx:A6C l (i+1)=max (A6C l i) (l.getD (i+1) 0):=rfl;rw [d1] at hnx;have ht:((i:Int)+1).toNat=i+1:=by omega
   generalize l[i+1]=y at*;generalize A6C l i=m at*;refine zR (zc @hltI (zc @A0e (zc @r1 (zc @ht Qw9)))) Qw9 Qw9 ?_;refine ⟨i+1,Weak.headF 0 25 [0,3,4] (zc @hnx Qw9) (zV3 @A1e @A0F @A0G),?_,?_⟩
   ·omega
   ·omega
  ·have ei:A6C l (l.length-1)=A6C l i:=by congr 1; omega
   have hnl: ¬((i:Int)+1<l.length):=by omega
   rw [ei];refine zR (zc @hnl (zc @A0e Qw9)) Qw9 Qw9 ?_;simp [A0y,A0x,Blk.cells,ty,Tryz.results160,A0s,A0t,toT,A0d,A0b,A0c,A0a,A0k]
theorem B2D (n q:Nat) (es:List E) (d s:List Int) (h1:1≤n) (h12:n≤12) (hq:q<n) (hd:d.length=n) (hs:s.length=n) (hl:es.length≤40) (hm: ∀e,e∈es->(0≤e.a∧e.a<n)∧(0≤e.b∧e.b<n)∧0≤e.m∧e.m≤50) (B:List Int) (pB:Nat) (hB:DEnd es (A7C n q,[q],0) B pB) (hBl:B.length=n):
  ACallH Tryz.prog 158 [.box [.int .i64 (n:Int),.slice (A0f es) .none],.ro [.int .i64 (n:Int),.slice (A0f es)],.box (iC d),.box (iC s),.roC [.tree (.int .i64 (n:Int)),.tree (.slice (A0f es)),.tree (.int .i64 (q:Int)),.ref 2 1 0 n n,.ref 3 1 0 n n,.tree (.int .i64 0)]] [.c (.ptr 4 0)] [.box [.int .i64 (n:Int),.slice (A0f es) .none],.ro [.int .i64 (n:Int),.slice (A0f es)],.box (iC d),.box (iC s),.roC [.tree (.int .i64 (n:Int)),.tree (.slice (A0f es)),.tree (.int .i64 (q:Int)),.ref 2 1 0 n n,.ref 3 1 0 n n,.tree (.int .i64 0)]] (.c (.slice (A0p B) .none)):=
 ((B1k n q es d s h1 h12 hq hd hs hl hm B pB hB hBl).trim (by simp) (show 5<6 by decide) (fun b hb=>by
  rcases XJ.1 hb with hb | hb
  ·exact B2B n q es d s (m:=6) (by decide) b hb
  ·rw [Zz] at hb; subst hb; exact A1e)).data (QQ _) (B2B n q es d s (m:=5) (by decide)) (B4G B) (by rw [A0e,hBl]) (QQ _) (fun r hr=>A1p hr) (B1V B)
def A6D (far:List Int) (k:Int) (n i:Nat):List Bool:=(List.range n).map fun v=>decide (v<i)&&decide (far.getD v 0<k)
theorem A9k (far:List Int) (k:Int) (n i:Nat):(A6D far k n i).length=n:=by simp [A6D]
theorem B2E (far:List Int) (k:Int) (n i v:Nat):(A6D far k n i)[v]? =if v<n then some (decide (v<i)&&decide (far.getD v 0<k)) else none:=by
 unfold A6D;rw [QY];by_cases h:v<n
 ·rw [if_pos h,Yv h]; rfl
 ·rw [if_neg h,Xq (by simpa using h)]; rfl
theorem B9S (far:List Int) (k:Int) {n i:Nat} (hi:i<n):(A6D far k n i).set i (decide (far.getD i 0<k))=A6D far k n (i+1):=by
 apply Zx;intro j;rw [Qw5,A9k,B2E,B2E];by_cases e:i=j
 ·subst e;rw [if_pos rfl,if_pos hi,if_pos hi,decide_eq_true (show i<i+1 by omega)]; rfl
 ·rw [if_neg e];by_cases h:j<n
  ·rw [if_pos h,if_pos h,decide_eq_decide.2 (show j<i↔j<i+1 by omega)]
  ·rw [if_neg h,if_neg h]
theorem B6P (far:List Int) (k:Int) (n:Nat):A6D far k n 0=List.replicate n false:=by
 apply Qz8
 ·simp [A6D]
 ·intro i h1 h2; simp [A6D]
def jnS (es:List E) (A:List Bool) (v:Nat):Int:=joinL (fun u=> !A.getD u.toNat false) (lnkL es v)
def minS (es:List E) (d:List Int) (A:List Bool):Nat->Int
 | 0=>0
 | v+1=>if A.getD v false=true∧0<jnS es A v then (if minS es d A v=0∨(d.getD v 0).tdiv (jnS es A v)<minS es d A v then (d.getD v 0).tdiv (jnS es A v) else minS es d A v) else minS es d A v
def B0u (n:Nat) (B:List Bool):List Bool:=B1q B n n
def C4r (n:Nat) (es:List E) (B:List Bool) (w:List Int×List Int):List Int×List Int:=
 (C3L es (minS es w.1 (B0u n B) n) (B0u n B) n w.1,C1M (minS es w.1 (B0u n B) n) (B0u n B) n w.2)
inductive SEnd (es:List E) (n q:Nat):List Int×List Int->List Int×List Int->List Bool->Prop where
 | stop {w:List Int×List Int} {B:List Bool}:BEnd es w.1 n (A9h n q) B->B.length=n->A6A B n=false->SEnd es n q w w B
 | go {w W:List Int×List Int} {B Z:List Bool}:BEnd es w.1 n (A9h n q) B->B.length=n->A6A B n=true->C6v es w.1 q B->(∀v,v<n->C4F es w.1 B v=false)->SEnd es n q (C4r n es B w) W Z->SEnd es n q w W Z
section
variable {n:Nat} {es:List E}
structure SInv (n:Nat) (es:List E) (q:Nat) (d0:List Int) (X Y sq:Int) (w:List Int×List Int):Prop where
 dl:w.1.length=n
 sl:w.2.length=n
 led:Led n es d0 w.1 w.2
 don: ∀v,v<n->v≠q->0≤w.1.getD v 0
 dq: -X≤w.1.getD q 0
 low: ∀v,v<n-> -Y≤w.2.getD v 0
 sq:w.2.getD q 0=sq
end
theorem B6Q (n q:Nat) (es:List E) (d s:List Int) (h1:1≤n) (h12:n≤12) (hq:q<n) (hd:d.length=n) (hs:s.length=n) (hl:es.length≤40) (hm: ∀e,e∈es->(0≤e.a∧e.a<n)∧(0≤e.b∧e.b<n)∧0≤e.m∧e.m≤50) (B:List Bool) (hB:BEnd es d n (A9h n q) B) (hBl:B.length=n):
  ACallH Tryz.prog 163 [.box [.int .i64 (n:Int),.slice (A0f es) .none],.ro [.int .i64 (n:Int),.slice (A0f es)],.box (iC d),.box (iC s),.roC [.tree (.int .i64 (n:Int)),.tree (.slice (A0f es)),.tree (.int .i64 (q:Int)),.ref 2 1 0 n n,.ref 3 1 0 n n,.tree (.int .i64 0)]] [.c (.ptr 4 0)] [.box [.int .i64 (n:Int),.slice (A0f es) .none],.ro [.int .i64 (n:Int),.slice (A0f es)],.box (iC d),.box (iC s),.roC [.tree (.int .i64 (n:Int)),.tree (.slice (A0f es)),.tree (.int .i64 (q:Int)),.ref 2 1 0 n n,.ref 3 1 0 n n,.tree (.int .i64 0)]] (.tup [.c (.slice (A4v (B0u n B)) .none),.c (.bool (A6A B n))]):=by
 obtain ⟨X,hX⟩:=B4g n q es d s h1 h12 hq hd hs hl hm B hB hBl;refine hX.trim (QQ _) (fun x hx=> ?_) (B2B n q es d s (m:=5) (by decide));simp only [Qw,Qk,or_false] at hx;rcases hx with rfl | rfl<;>exact Qw7
theorem B0v (k:Int) (h: -1048576≤k∧k≤1048576):ACall Tryz.prog 107 [A0k k] (A0z true):=by
 have h1:k≥ -1048576:=h.1;have h2:k≤1048576:=h.2;refine ACall.of_body Tryz.func107 rfl (by kernel_rfl) ?_;simp only [entry,Tryz.ntmps107,A0k];refine zU ?_;refine zR (zc @h1 (zc @h2 Qw9)) Qw9 Qw9 ?_;simp [A0y,A0x,Blk.cells,ty,Tryz.results107,A0s,A0t,toT,A0d,A0b,A0c,A0a,A0z]
theorem B2F (n:Int) (h:1≤n∧n≤12):ACall Tryz.prog 106 [A0k n] (A0k 0):=by
 have h1: ¬(n<1):=by omega
 have h2: ¬(n>12):=by omega
 refine ACall.of_body Tryz.func106 rfl (by kernel_rfl) ?_;simp only [entry,Tryz.ntmps106,A0k];refine zU ?_;refine zR (zc @h1 (zc @h2 Qw9)) Qw9 Qw9 ?_;simp [A0y,A0x,Blk.cells,ty,Tryz.results106,A0s,A0t,toT,A0d,A0b,A0c,A0a,A0k]
theorem A6E (d:List Int) (n:Nat) (h1:1≤n) (h12:n≤12) (hd:d.length=n) (hb:bndL 1048576 d):ACall Tryz.prog 63 [A0m d,A0k n] (A0k 0):=by
 have hV:=B2F n (by omega);refine ACall.of_body Tryz.func63 rfl (by kernel_rfl) ?_;simp only [entry,Tryz.ntmps63,A0m,A0k];refine zU ?_;refine zJ (stop 7) (zc @A0e (zc @hd Qw9)) (zc hV Qw9) Qw9 Qw9 ?_;refine AWp.loopS (α:=Nat) 27 (fun i=>[(17,.c (.slice (A0p d) .none)),(18,.c (.int .i64 (n:Int))),(19,.c (.int .i64 (i:Int)))]) (fun i=>[]) (fun i=>i≤n) (fun i=>n-i) (0) (hk:=Weak.headL 0 27 [17,18,19] (zV3 @A1e @A0F @A0G)) (h0:=?_) (round:=fun i hI=>?_)
 ·exact Xj _
 ·have hi:i≤n:=hI;clear hI;by_cases hil:i<n
  ·have hiI:(i:Int)<(n:Int):=by omega
   have hg:=A0u (A1t (d:=d) (i:=i) (by omega));have hw:=B0v (d.getD i 0) (hb i);generalize d.getD i 0=x at*;refine zR (zc @hiI (zc @hg (zc @A0e (zc @hd (zc @Xy Qw9))))) (zc hw Qw9) Qw9 ?_;refine ⟨i+1,Weak.headN 0 27 [17,18,19] (zV3 @A1e @A0F @A0G),?_,?_⟩
   ·exact hil
   ·omega
  ·have hnl: ¬(i:Int)<(n:Int):=by omega
   refine zR (zc @hnl Qw9) Qw9 Qw9 ?_;simp [A0y,A0x,Blk.cells,ty,Tryz.results63,A0s,A0t,toT,A0d,A0b,A0c,A0a,A0k]
def A2C (s:List Int) (c:Int):Nat->List Int
 | 0=>s
 | i+1=>(A2C s c i).set i ((A2C s c i).getD i 0-c)
theorem A4V (s:List Int) (c:Int): ∀i,(A2C s c i).length=s.length
 | 0=>rfl
 | i+1=>by unfold A2C; rw [Yw]; exact A4V s c i
theorem A6F (s:List Int) (c:Int) (v:Nat): ∀i,i≤s.length->(A2C s c i).getD v 0=if v<i then s.getD v 0-c else s.getD v 0
 | 0,_=>by rw [if_neg (by omega)]; rfl
 | i+1,hi=>by
  unfold A2C;rw [A4U _ _ _ _ (by rw [A4V]; omega),A6F s c v i (by omega),A6F s c i i (by omega),if_neg (Nat.lt_irrefl i)];by_cases e:v=i
  ·subst e; rw [if_pos rfl,if_pos (by omega)]
  ·rw [if_neg e];by_cases h:v<i
   ·rw [if_pos h,if_pos (by omega)]
   ·rw [if_neg h,if_neg (by omega)]
theorem B9T (n q:Nat) (es:List E) (d s:List Int) (h1:1≤n) (h12:n≤12) (hq:q<n) (hd:d.length=n) (hs:s.length=n) (hdb:bndL 1048576 d) (hsb:bndL (2^40) s) (hsc:bndL 1048576 (A2C s (s.getD q 0) n)):
  ACallH Tryz.prog 119 [.box [.int .i64 (n:Int),.slice (A0f es) .none],.ro [.int .i64 (n:Int),.slice (A0f es)],.box (iC d),.box (iC s),.roC [.tree (.int .i64 (n:Int)),.tree (.slice (A0f es)),.tree (.int .i64 (q:Int)),.ref 2 1 0 n n,.ref 3 1 0 n n,.tree (.int .i64 0)]] [.c (.ptr 4 0)] [.box [.int .i64 (n:Int),.slice (A0f es) .none],.ro [.int .i64 (n:Int),.slice (A0f es)],.box (iC d),.box (iC (A2C s (s.getD q 0) n)),.roC [.tree (.int .i64 (n:Int)),.tree (.slice (A0f es)),.tree (.int .i64 (q:Int)),.ref 2 1 0 n n,.ref 3 1 0 n n,.tree (.int .i64 0)]] (.tup [.c (.ref 2 1 0 n n),.c (.ref 3 1 0 n n),.c (.int .i64 0)]):=by
 have hqI:(q:Int)<(n:Int):=by omega
 have hgq:=A6t (A1t (d:=s) (i:=q) (by omega));have hqb:=hsb q;have hC1:=A6E d n h1 h12 hd hdb;have hC2:=A6E (A2C s (s.getD q 0) n) n h1 h12 (by rw [A4V]; exact hs) hsc;clear hsc hdb;have hsl: ∀i,i≤n-> ∀v,(A2C s (s.getD q 0) i).getD v 0=if v<i then s.getD v 0-s.getD q 0 else s.getD v 0:=fun i hi v=>A6F s _ v i (by omega)
 have hnl:=fun i=>A4V s (s.getD q 0) i;rw [hs] at hnl;have hn0:A2C s (s.getD q 0) 0=s:=rfl;have hns: ∀i,(A2C s (s.getD q 0) i).set i ((A2C s (s.getD q 0) i).getD i 0-s.getD q 0)=A2C s (s.getD q 0) (i+1):=fun i=>rfl;generalize s.getD q 0=c at*;refine ACallH.of_body Tryz.func119 rfl (by kernel_rfl) ?_;simp only [entry,Tryz.ntmps119,List.length_cons,List.length_nil,Nat.reduceAdd,Nat.reduceSub,List.replicate_succ,List.replicate_zero,List.cons_append,List.nil_append];refine zJ (stop 5) (zc @hgq (zc @hqI (zc @A12 (zc @hs (zc @Xy Qw9))))) Qw9 Qw9 Qw9 ?_;refine AWp.loopS (α:=Nat) 77 (fun i=>[(0,.c (.ptr 4 0)),(5,.c (.int .i64 c)),(30,.c (.int .i64 (n:Int))),(31,.c (.int .i64 (i:Int)))]) (fun i=>[.box [.int .i64 (n:Int),.slice (A0f es) .none],.ro [.int .i64 (n:Int),.slice (A0f es)],.box (iC d),.box (iC (A2C s c i)),.roC [.tree (.int .i64 (n:Int)),.tree (.slice (A0f es)),.tree (.int .i64 (q:Int)),.ref 2 1 0 n n,.ref 3 1 0 n n,.tree (.int .i64 0)]]) (fun i=>i≤n) (fun i=>n-i) (0) (hk:=Weak.headL 5 77 [0,5,30,31] (zV3 @A1e @A0F @A0G)) (h0:=?_) (round:=fun i hI=>?_)
 ·exact Xj _
 ·have hi:i≤n:=hI;clear hI;by_cases hil:i<n
  ·have hiI:(i:Int)<(n:Int):=by omega
   have hg:=A6t (A1t (d:=A2C s c i) (i:=i) (by rw [hnl]; exact hil));have e1:=hsl i hi i;rw [if_neg (Nat.lt_irrefl i)] at e1;have hb:=hsb i;have hst:=A9V (A2C s c i) i ((A2C s c i).getD i 0-c);rw [hns] at hst;rw [e1] at hg hst;have hl:=hnl i;clear hC1 hC2 hsl hns hsb hnl e1;generalize hn1:A2C s c (i+1)=N1 at*;generalize hn2:A2C s c i=N0 at*;generalize s.getD i 0=x at*;refine zR (zc @hiI (zc @hg (zc @hst (zc @A12 (zc @hl (zc @Xy Qw9)))))) Qw9 Qw9 ?_;refine ⟨i+1,Weak.headF 5 77 [0,5,30,31] (zc @hn1 Qw9) (zV3 @A1e @A0F @A0G),?_,?_⟩
   ·exact hil
   ·omega
  ·have hnl2: ¬(i:Int)<(n:Int):=by omega
   have ei:i=n:=by omega
   rw [ei];rw [ei] at hnl2;have hl:=hnl n;clear hsl hns hsb hnl;generalize A2C s c n=N at*;have hbi: ∀(H:List Blk) (k:IntKind) (x:Int),A0d H (.int k x)=some (.int k x):=fun _ _ _=>rfl;have hb2:A0d [.box [.int .i64 (n:Int),.slice (A0f es) .none],.ro [.int .i64 (n:Int),.slice (A0f es)],.box (iC d),.box (iC N),.roC [.tree (.int .i64 (n:Int)),.tree (.slice (A0f es)),.tree (.int .i64 (q:Int)),.ref 2 1 0 n n,.ref 3 1 0 n n,.tree (.int .i64 0)]] (.ref 2 1 0 n n)=some (.slice (A0p d)):=B0o hd rfl;have hb3:A0d [.box [.int .i64 (n:Int),.slice (A0f es) .none],.ro [.int .i64 (n:Int),.slice (A0f es)],.box (iC d),.box (iC N),.roC [.tree (.int .i64 (n:Int)),.tree (.slice (A0f es)),.tree (.int .i64 (q:Int)),.ref 2 1 0 n n,.ref 3 1 0 n n,.tree (.int .i64 0)]] (.ref 3 1 0 n n)=some (.slice (A0p N)):=B0o hl rfl;have hD1:ACallH Tryz.prog 63 [.box [.int .i64 (n:Int),.slice (A0f es) .none],.ro [.int .i64 (n:Int),.slice (A0f es)],.box (iC d),.box (iC N),.roC [.tree (.int .i64 (n:Int)),.tree (.slice (A0f es)),.tree (.int .i64 (q:Int)),.ref 2 1 0 n n,.ref 3 1 0 n n,.tree (.int .i64 0)]] [.c (.ref 2 1 0 n n),.c (.int .i64 (n:Int))] [.box [.int .i64 (n:Int),.slice (A0f es) .none],.ro [.int .i64 (n:Int),.slice (A0f es)],.box (iC d),.box (iC N),.roC [.tree (.int .i64 (n:Int)),.tree (.slice (A0f es)),.tree (.int .i64 (q:Int)),.ref 2 1 0 n n,.ref 3 1 0 n n,.tree (.int .i64 0)]] (.c (.int .i64 0)):=hC1.hb (by simp [toT,A0t,hb2,hbi,A0m,A0k]) rfl;have hD2:ACallH Tryz.prog 63 [.box [.int .i64 (n:Int),.slice (A0f es) .none],.ro [.int .i64 (n:Int),.slice (A0f es)],.box (iC d),.box (iC N),.roC [.tree (.int .i64 (n:Int)),.tree (.slice (A0f es)),.tree (.int .i64 (q:Int)),.ref 2 1 0 n n,.ref 3 1 0 n n,.tree (.int .i64 0)]] [.c (.ref 3 1 0 n n),.c (.int .i64 (n:Int))] [.box [.int .i64 (n:Int),.slice (A0f es) .none],.ro [.int .i64 (n:Int),.slice (A0f es)],.box (iC d),.box (iC N),.roC [.tree (.int .i64 (n:Int)),.tree (.slice (A0f es)),.tree (.int .i64 (q:Int)),.ref 2 1 0 n n,.ref 3 1 0 n n,.tree (.int .i64 0)]] (.c (.int .i64 0)):=hC2.hb (by simp [toT,A0t,hb3,hbi,A0m,A0k]) rfl;refine zJ Qw9 (zc @hnl2 (zc @A12 (zc @hl Qw9))) Qw9 (zc hD1 (zc hD2 Qw9)) Qw9 ?_;simp [A4D,A1Y,A0s,A1X,Tryz.results119]
end Go.Proofs.YtdbdfkohpjefjaaGreat
