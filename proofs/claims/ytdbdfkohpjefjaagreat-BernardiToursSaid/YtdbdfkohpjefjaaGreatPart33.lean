/- A part of the proof. -/
import Derived.Test.YtdbdfkohpjefjaaGreatPart31
set_option linter.all false
set_option maxHeartbeats 4000000
set_option maxRecDepth 100000
namespace Go.Proofs.YtdbdfkohpjefjaaGreat
open Go.Sp
theorem B2h (n q:Nat) (es:List E) (d s:List Int) {m:Nat} (hm:4≤m):A1z m [.box [.int .i64 (n:Int),.slice (A0f es) .none],.ro [.int .i64 (n:Int),.slice (A0f es)],.box (iC d),.box (iC s),.roC [.tree (.int .i64 (n:Int)),.tree (.slice (A0f es)),.tree (.int .i64 (q:Int)),.ref 2 1 0 n n,.ref 3 1 0 n n,.tree (.int .i64 0)]]:=by
 have hg:blkIn m (.box [.int .i64 (n:Int),.slice (A0f es) .none]):=by intro c hc; simp only [Qw,Qk,or_false] at hc; rcases hc with rfl | rfl<;>exact Qw4
 exact A0l hg (A0l Qw4 (A0l A1g (A0l A1g (A0l (A0F hm) (A0v _)))))
theorem B2i (v:Nat) (Q:List Nat):A0o (zI (v::Q))=[.int .i64 (v:Int)]::A0o (zI Q):=rfl
theorem B0G (n q:Nat) (es:List E) (d s:List Int) (h1:1≤n) (h12:n≤12) (hq:q<n) (hd:d.length=n) (hs:s.length=n) (hl:es.length≤40) (hm: ∀e,e∈es->(0≤e.a∧e.a<n)∧(0≤e.b∧e.b<n)∧0≤e.m∧e.m≤50) (B:List Int) (pB:Nat) (hB:DEnd es (A7v n q,[q],0) B pB) (hBl:B.length=n):
  ACallH Tryz.prog 158 [.box [.int .i64 (n:Int),.slice (A0f es) .none],.ro [.int .i64 (n:Int),.slice (A0f es)],.box (iC d),.box (iC s),.roC [.tree (.int .i64 (n:Int)),.tree (.slice (A0f es)),.tree (.int .i64 (q:Int)),.ref 2 1 0 n n,.ref 3 1 0 n n,.tree (.int .i64 0)]] [.c (.ptr 4 0)] (([.box [.int .i64 (n:Int),.slice (A0f es) .none],.ro [.int .i64 (n:Int),.slice (A0f es)],.box (iC d),.box (iC s),.roC [.tree (.int .i64 (n:Int)),.tree (.slice (A0f es)),.tree (.int .i64 (q:Int)),.ref 2 1 0 n n,.ref 3 1 0 n n,.tree (.int .i64 0)]]++[.box (iC B)])++[.box [.ref 5 1 0 n n],.box [.slice [] (.tail 8 pB)],.chain pB 1]) (.c (.ref 5 1 0 n n)):=by
 have hlk:=fun H v h4=>B7R (H:=H) n q es v h4;have hI:=fun (v:Nat) (hv:v<n)=>B18 n es v (by omega) (fun e he=>by have:=hm e he; omega) (by omega);have hkb: ∀(v:Nat) x,x∈lnkL es v->0≤x.1∧x.1<n:=fun v x hx=>by
  obtain ⟨e,he,e1,_,e2⟩:=A6N hx;have:=hm e he;rcases e2 with ⟨_,e2⟩ | ⟨_,e2⟩<;>(rw [e2]; omega)
 have hqI:(q:Int)<(n:Int):=by omega
 have hRp:=B8e n (by omega) [.box [.int .i64 (n:Int),.slice (A0f es) .none],.ro [.int .i64 (n:Int),.slice (A0f es)],.box (iC d),.box (iC s),.roC [.tree (.int .i64 (n:Int)),.tree (.slice (A0f es)),.tree (.int .i64 (q:Int)),.ref 2 1 0 n n,.ref 3 1 0 n n,.tree (.int .i64 0)]] (fun b hb=>B2h n q es d s (m:=6) (by decide) b hb);have hdn:iC d≠[]:=B7Q (by intro e; rw [e] at hd; simp at hd; omega);have hsn:iC s≠[]:=B7Q (by intro e; rw [e] at hs; simp at hs; omega);have hne: ∀{x:List Int},x.length=n->iC x≠[]:=fun {x} hx=>B7Q (by intro e; rw [e] at hx; simp at hx; omega);have hrl:(List.replicate n (-1):List Int).length=n:=by simp
 have hr0:=A8s (List.replicate n (-1)) q 0;have hr0':(iC (List.replicate n (-1))).set q (.int .i64 0)=iC (A7v n q):=hr0;have hw0:=B43 (es:=es) hq;simp only [List.cons_append,List.nil_append] at hRp ⊢;refine ACallH.of_body Tryz.func158 rfl (by kernel_rfl) ?_;simp only [entry,Tryz.ntmps158,List.length_cons,List.length_nil,Nat.reduceAdd,Nat.reduceSub,List.replicate_succ,List.replicate_zero,List.cons_append,List.nil_append];refine zJc Qw6 (zc @hqI (zc @hr0' (zc @hrl (zc @A1s (zc @Xk Qw6))))) Qw6 (zc hRp Qw6) Qw6 ?_;refine AWp.weak (A0r.tailB 7 0 1 rfl rfl (by simp)) ?_;simp only [List.set_cons_succ,List.set_cons_zero,List.length_cons,List.length_nil,Xv,Nat.reduceAdd,List.cons_append,List.nil_append];refine AWp.loopS (α:=BS3) 56 (fun w=>[(0,.c (.ptr 4 0)),(3,.c (.ptr 6 0)),(4,.c (.ptr 7 0))]) (fun w=>[.box [.int .i64 (n:Int),.slice (A0f es) .none],.ro [.int .i64 (n:Int),.slice (A0f es)],.box (iC d),.box (iC s),.roC [.tree (.int .i64 (n:Int)),.tree (.slice (A0f es)),.tree (.int .i64 (q:Int)),.ref 2 1 0 n n,.ref 3 1 0 n n,.tree (.int .i64 0)],.box (iC w.1),.box [.ref 5 1 0 n n],.box [.slice (A0o (zI w.2.1)) (.tail 8 w.2.2)],.chain w.2.2 1]) (fun w=>DEnd es w B pB∧BFq es n q w.1 w.2.1∧2*cntNeg w.1+w.2.1.length≤30) (fun w=>2*cntNeg w.1+w.2.1.length) ((A7v n q,[q],0)) (hk:=A0r.headL 9 56 [0,3,4] (zV3 @A1g @A0I @A0F)) (h0:=?_) (round:=fun w hI=>?_)
 ·refine ⟨hB,hw0,?_⟩;have:=hw0.bnd q hq;have:=hw0.q0;show 2*cntNeg (A7v n q)+1≤30;omega
 ·obtain ⟨o,Q,p⟩:=w;obtain ⟨hE,hF,hQb⟩:=hI;simp only at hE hF hQb ⊢;cases Q with
  | nil=>
   cases hE;have e0:(A0o (zI ([]:List Nat))).length=0:=rfl;have e1:A0o (zI ([]:List Nat))=[]:=rfl;refine zR (zc @e0 (zc @e1 Qw6)) Qw6 Qw6 ?_;simp [A4r,A1T,A0s,A1S,Tryz.results158]
  | cons v Q=>
   have hP:=hF.pop;have hvn:=hP.vv.1;have hvI:(v:Int)<(n:Int):=by omega
   cases hE with
   | go hE=>
   have hall:=PBq.all (s:=(o,Q,p)) (hkb v) hP;have hcn:=PBq.cnt (s:=(o,Q,p)) (hkb v) hP;have hIk:=hI v hvn;have hkbv:=hkb v;have el:(0:Int)<((Q.length+1:Nat):Int):=by omega
   have hneJ: ∀l,iC (List.foldl (stepD v) (o,Q,p) l).1≠[]:=fun l=>hne ((B1Z v l (o,Q,p)).trans hF.len);rw [B2i];have hQl:=hF.len
   repeat' (first|((with_reducible refine AWp.seq (AWp.of_reg (id:=6) (AReg.pre 1 (fun K hK=>?_))));simp only [List.take_succ_cons,List.take_zero])|((with_reducible refine AWp.of_reg (id:=6) (AReg.pre 1 (fun K hK=>?_)));simp only [List.take_succ_cons,List.take_zero])|((first|(refine zT ?_;intro K' hK')|(refine zG ?_ ?_<;>(try refine zH ?_)<;>intro hguard<;>(try exact zX)<;>try intro K' hK'))<;>((try simp+contextual only [go_sem,el,A0d,A6f,Int.toNat_natCast]);(repeat' first|(with_reducible refine hK' _ _ ?_;clear hK' K')|exact zY|with_reducible refine Qw5 ?_ ?_|(with_reducible intro hpath;try exact zP)|(refine hK' _ _ ?_;clear hK' K')|fail);try refine zS ?_))|(refine zE ?_;refine hK _ _ ?_;clear hK K)|(refine zN ?_;try refine zS ?_)|refine zA ?_|(refine zB ?_;intro K hK)|(refine zC ?_ ?_<;>(try refine zH ?_)<;>intro hcond<;>try exact zX)|fail)
   simp only [Zx,ZY];refine AReg.step rfl rfl (A7q (k:=1) (i:=8) (p:=p) (rows:=[.int .i64 (v:Int)]::A0o (zI Q)) (l:=1) _ _ _ rfl 3 (by simp only [ty]) (by simp only [ty]) (.inr rfl) rfl (fun r hr=>by rcases Qw.1 hr with rfl | hr; exact rfl; exact A1c hr) rfl (by decide) (by rw [List.length_cons]; omega)) ?_;simp only [A1e,List.set_cons_succ,List.set_cons_zero,Int.toNat_one,Zx,ZY];refine AReg.rest (fun K hK=> ?_)
   repeat' (first|((first|(refine zT ?_;intro K' hK')|(refine zG ?_ ?_<;>(try refine zH ?_)<;>intro hguard<;>(try exact zX)<;>try intro K' hK'))<;>((try simp+contextual only [go_sem,ofT,A2A,A04,Xy,XV]);(repeat' first|(with_reducible refine hK' _ _ ?_;clear hK' K')|((with_reducible first|refine ⟨_,_,hlk _ _ rfl,?_⟩|refine ⟨_,hlk _ _ rfl,?_⟩);try simp+contextual only [go_sem,ofT,A2A,A04,Xy,XV])|exact zY|with_reducible refine Qw5 ?_ ?_|(with_reducible intro hpath;try exact zP)|(refine hK' _ _ ?_;clear hK' K')|fail);try refine zS ?_))|(refine zE ?_;refine hK _ _ ?_;clear hK K)|(refine zN ?_;try refine zS ?_)|refine zA ?_|(refine zB ?_;intro K hK)|(refine zC ?_ ?_<;>(try refine zH ?_)<;>intro hcond<;>try exact zX)|fail)
   refine AWp.weak (A0r.head (m:=10) (by omega) ((fun t f=>[t,f,f,t,t,t,f,f,f,f,f,f,f,f,f,f,f,f,f,f,f,f,f,f,f,f,f,f,f,f,f,f,f,f,f,t,f,f,f,f,f,f,f,f,f,f,f,f,f,f,f,f,f,f,f,f]) true false) (by first | rfl | simp [mask]) (by first | rfl | simp) (by (repeat' (first | exact A0n _ | refine A0i ?_ ?_ | refine A0g ?_ ?_ | exact A0h _ | exact Qw4 | (show _<_; omega) | (intro c hc; cases hc; done) | (intro c hc; simp only [Qw,Qk,or_false] at hc; subst hc; first | exact Qw4 | (show _<_; omega)) | (intro c hc; simp only [Qw,Qk,or_false] at hc; rcases hc with rfl | rfl<;>first | exact Qw4 | (show _<_; omega))))) (by (repeat' (first | exact A0n _ | exact A0v _ | exact A0h _ | refine Qw5 ?_ ?_ | refine A0i ?_ ?_ | refine A0l ?_ ?_ | refine A0g ?_ ?_ | exact Qw4 | exact A1g | exact A0I | exact A0F (by omega) | (show _<_; omega) | exact A0p (fun _=>Qw4) | (intro c hc; cases hc; done) | (intro c hc; simp only [Qw,Qk,or_false] at hc; subst hc; first | exact Qw4 | exact A1g | exact A0I | exact A0F (by omega) | (show _<_; omega)) | (intro c hc; simp only [Qw,Qk,or_false] at hc; rcases hc with rfl | rfl<;>first | exact Qw4 | exact A1g | exact A0I | exact A0F (by omega) | (show _<_; omega)))))) (AWp.rangeFunc (fun j H=>H=[.box [.int .i64 (n:Int),.slice (A0f es) .none],.ro [.int .i64 (n:Int),.slice (A0f es)],.box (iC d),.box (iC s),.roC [.tree (.int .i64 (n:Int)),.tree (.slice (A0f es)),.tree (.int .i64 (q:Int)),.ref 2 1 0 n n,.ref 3 1 0 n n,.tree (.int .i64 0)],.box (iC (((lnkL es v).take j).foldl (stepD v) (o,Q,p)).1),.box [.ref 5 1 0 n n],.box [.slice (A0o (zI (((lnkL es v).take j).foldl (stepD v) (o,Q,p)).2.1)) (.tail 8 (((lnkL es v).take j).foldl (stepD v) (o,Q,p)).2.2)],.chain (((lnkL es v).take j).foldl (stepD v) (o,Q,p)).2.2 1,.box [.int .i64 (v:Int)]]∧(True)) (fun _ _=>False) 10 rfl (hIk) (B1N rfl) (by omega) (by (repeat' (first | exact A0n _ | refine A0i ?_ ?_ | refine A0g ?_ ?_ | exact A0h _ | exact Qw4 | (show _<_; omega) | (intro c hc; cases hc; done) | (intro c hc; simp only [Qw,Qk,or_false] at hc; subst hc; first | exact Qw4 | (show _<_; omega)) | (intro c hc; simp only [Qw,Qk,or_false] at hc; rcases hc with rfl | rfl<;>first | exact Qw4 | (show _<_; omega))))) (by rintro _ _ ⟨rfl,-⟩; simp [hdn,hsn,hneJ]) (fun _ _ h=>h.elim) ?_ (fun l j ts H hts hI=> ?_) (fun H hI=> ?_) (fun e H h=>h.elim))
   ·exact ⟨rfl,trivial⟩
   ·obtain ⟨rfl,-⟩:=hI;obtain ⟨x,hx,rfl⟩:=A6G hts;have hj:j<(lnkL es v).length:=(Qx.1 hx).1;have hxb:=hkbv x (Qy hx);have hnx:=B5Q v (o,Q,p) hx;have hPj:=hall j (by omega);have hcj:=hcn j (by omega);rw [List.length_cons] at hQb;have hlj:=hPj.len;have hbj:=hPj.bnd v hvn;have hcn0:=hPj.vv.2;have hqm:=hPj.qm;generalize ((lnkL es v).take j).foldl (stepD v) (o,Q,p)=sj at*;generalize hnj:((lnkL es v).take (j+1)).foldl (stepD v) (o,Q,p)=sj1 at*;obtain ⟨oj,Qj,pj⟩:=sj;obtain ⟨u,m⟩:=x;obtain ⟨u1,u2⟩:=hxb;obtain ⟨z,rfl⟩:=XX u1;have hzI:(z:Int)<(n:Int):=u2;unfold stepD at hnx;simp only [Int.toNat_natCast] at hnx hlj hbj hcj hcn0 ⊢;have g1:=A5l (A11 (d:=oj) (i:=z) (by omega));have g2:=A5l (A11 (d:=oj) (i:=v) (by omega));have hst:=A8s oj z (oj.getD v 0+1);generalize oj.getD z 0=oz at*;generalize oj.getD v 0=ov at*;simp only [mask,A3Y,List.zip_cons_cons,Wy,List.zip_nil_left,List.foldl_cons,List.foldl_nil,List.set_cons_succ,List.set_cons_zero,ofT,A2A,A04,Xy,XV,ofT,A2A,toT,A0u,A0a,A0k,A01,A2W,tG,A0C,A0m,A9C];by_cases hneg:oz<0
    ·rw [if_pos hneg] at hnx;have hzs:=B7T Qj z;have hzl:=A6f Qj;refine zRc (zc @hzI (zc @hvI (zc @g1 (zc @g2 (zc @hst (zc @hneg (zc @A1s (zc @hlj (zc @A0d (zc @A1P (zc @hzs (zc @hzl (zc @Xk Qw6))))))))))))) Qw6 @A1c ?_;refine ⟨⟨_,_⟩,A0r.head2 (m:=10) (by decide) ((fun t f=>[f,f,f,f,f,f,f,f,f,f,f,f,f,f,f,f,f,f,f,f,f,f,f,f,f,f,f,f,f,f,f,f,f,f,f,f,f,f,f,f,f,f,f,f,f,f,f,f,f,f,f,f,f,f,f,f]) true false) rfl rfl (zV3 @A1g @A0I @A0F),?_,?_⟩
     ·rw [hnj,hnx]; rfl
     ·trivial
    ·rw [if_neg hneg] at hnx;refine zR (zc @hzI (zc @g1 (zc @hneg (zc @A1s (zc @hlj (zc @Xk Qw6)))))) Qw6 Qw6 ?_;refine ⟨⟨_,_⟩,A0r.head2 (m:=10) (by decide) ((fun t f=>[f,f,f,f,f,f,f,f,f,f,f,f,f,f,f,f,f,f,f,f,f,f,f,f,f,f,f,f,f,f,f,f,f,f,f,f,f,f,f,f,f,f,f,f,f,f,f,f,f,f,f,f,f,f,f,f]) true false) rfl rfl (zV3 @A1g @A0I @A0F),?_,?_⟩
     ·rw [hnj,hnx]; rfl
     ·trivial
   ·obtain ⟨rfl,-⟩:=hI;rw [A6F,Zk];have hd1:=hall _ (QQ _);have hc1:=hcn _ (QQ _);rw [Zk] at hd1 hc1;simp only [mask];refine zR Qw6 Qw6 Qw6 ?_;refine ⟨B6m es v (o,Q,p),A0r.headN 9 56 [0,3,4] (zV3 @A1g @A0I @A0F),?_,?_⟩
    ·refine ⟨hE,hd1.done,?_⟩;rw [List.length_cons] at hQb;show 2*cntNeg (B6m es v (o,Q,p)).1+(B6m es v (o,Q,p)).2.1.length≤30;have:2*cntNeg (B6m es v (o,Q,p)).1+(B6m es v (o,Q,p)).2.1.length≤2*cntNeg o+Q.length:=hc1;omega
    ·show 2*cntNeg (B6m es v (o,Q,p)).1+(B6m es v (o,Q,p)).2.1.length<2*cntNeg o+(v::Q).length;rw [List.length_cons];have:2*cntNeg (B6m es v (o,Q,p)).1+(B6m es v (o,Q,p)).2.1.length≤2*cntNeg o+Q.length:=hc1;omega
set_option maxHeartbeats 1000000
set_option maxHeartbeats 1000000
section
variable {n:Nat} {es:List E}
theorem C3Q (h:EsOk n es) {v:Nat} {x:Int×Int} (hx:x∈lnkL es v):x.1.toNat<n∧x.1.toNat≠v∧0≤x.1:=by
 obtain ⟨e,he,_,hne,hab⟩:=A6N hx;have:=h.rng e he;rcases hab with ⟨q1,q2⟩ | ⟨q1,q2⟩<;>omega
def C5i (R:List Bool):Nat->Bool:=fun v=>R.getD v false
def Led (n:Nat) (es:List E) (d0 d s:List Int):Prop:= ∀w,w<n->d.getD w 0=d0.getD w 0-lap n (mulE es) (fun u=>s.getD u 0) w
end
set_option maxHeartbeats 1000000
def C4G (far:List Int) (k:Int):List Bool:=far.map fun x=>decide (x<k)
section
variable {n:Nat} {es:List E}
structure LInv (n:Nat) (es:List E) (far d0:List Int) (k X:Int) (w:List Int×List Int):Prop where
 dl:w.1.length=n
 sl:w.2.length=n
 led:Led n es d0 w.1 w.2
 db:bndL X w.1
 sb:bndL X w.2
 sp: ∀v,0≤w.2.getD v 0
 don: ∀v,v<n->k<far.getD v 0->0≤w.1.getD v 0
def C4L (S:Nat->Bool):List E->Int
 | []=>0
 | e::es=>(if S e.a.toNat≠S e.b.toNat then e.m else 0)+C4L S es
def levF (es:List E) (far:List Int) (k:Nat):Int:=C4L (C5i (C4G far (k:Int))) es
def powF (z:Nat->Int) (X:Int):Nat->Int
 | 0=>X
 | k+1=>powF z (X+z (k+1)*X) k
end
def A6t (l:List Int):Nat->Int
 | 0=>l.getD 0 0
 | k+1=>max (A6t l k) (l.getD (k+1) 0)
theorem B46 (l:List Int): ∀k i,i≤k->l.getD i 0≤A6t l k
 | 0,i,h=>by rw [show i=0 by omega]; exact Qx7 _
 | k+1,i,h=>by
  unfold A6t;by_cases e:i=k+1
  ·subst e; omega
  ·have:=B46 l k i (by omega); omega
theorem B47 (l:List Int): ∀k,∃i,i≤k∧A6t l k=l.getD i 0
 | 0=>⟨0,QQ _,rfl⟩
 | k+1=>by
  obtain ⟨i,h1,h2⟩:=B47 l k;unfold A6t;rcases Int.le_total (A6t l k) (l.getD (k+1) 0) with h | h
  ·exact ⟨k+1,QQ _,by omega⟩
  ·exact ⟨i,by omega,by omega⟩
theorem C3R (l:List Int) (hne:l≠[]) (hl:l.length<2^40):ACall Tryz.prog 160 [A0m l] (A0k (A6t l (l.length-1))):=by
 have hp:0<l.length:=YX.2 hne;have e0:=Qq hp;have r0:=A0t e0;have d0:l.getD 0 0=l[0]:=by rw [Qz,e0]; rfl
 generalize l[0]=x0 at*;refine ACall.of_body Tryz.func160 rfl (by kernel_rfl) ?_;simp only [entry,Tryz.ntmps160,A0m];refine zU ?_;refine zR (zc @A0d (zc @r0 (zc @Int.toNat_zero Qw6))) Qw6 Qw6 ?_;have hx0:x0=A6t l 0:=d0.symm;rw [hx0];refine AWp.loopS (α:=Nat) 25 (fun i=>[(0,.c (.slice (A0o l) .none)),(3,.c (.int .i64 (A6t l i))),(4,.c (.int .i64 ((i:Int)+1)))]) (fun i=>[]) (fun i=>i<l.length) (fun i=>l.length-i) (0) (hk:=A0r.headL 0 25 [0,3,4] (zV3 @A1g @A0I @A0F)) (h0:=?_) (round:=fun i hI=>?_)
 ·exact hp
 ·by_cases hlt:i+1<l.length
  ·have hltI:(i:Int)+1<l.length:=by omega
   have e1:=Qq hlt;have r1:=A0t e1;have d1:l.getD (i+1) 0=l[i+1]:=by rw [Qz,e1]; rfl
   have hnx:A6t l (i+1)=max (A6t l i) (l.getD (i+1) 0):=rfl;rw [d1] at hnx;have ht:((i:Int)+1).toNat=i+1:=by omega
   generalize l[i+1]=y at*;generalize A6t l i=m at*;refine zR (zc @hltI (zc @A0d (zc @r1 (zc @ht Qw6)))) Qw6 Qw6 ?_;refine ⟨i+1,A0r.headF 0 25 [0,3,4] (zc @hnx Qw6) (zV3 @A1g @A0I @A0F),?_,?_⟩
   ·omega
   ·omega
  ·have ei:A6t l (l.length-1)=A6t l i:=by congr 1; omega
   have hnl: ¬((i:Int)+1<l.length):=by omega
   rw [ei];refine zR (zc @hnl (zc @A0d Qw6)) Qw6 Qw6 ?_;simp [A0y,A0x,Blk.cells,ty,Tryz.results160,A0s,A0u,toT,A0e,A0b,A0c,A0a,A0k]
theorem B2j (n q:Nat) (es:List E) (d s:List Int) (h1:1≤n) (h12:n≤12) (hq:q<n) (hd:d.length=n) (hs:s.length=n) (hl:es.length≤40) (hm: ∀e,e∈es->(0≤e.a∧e.a<n)∧(0≤e.b∧e.b<n)∧0≤e.m∧e.m≤50) (B:List Int) (pB:Nat) (hB:DEnd es (A7v n q,[q],0) B pB) (hBl:B.length=n):
  ACallH Tryz.prog 158 [.box [.int .i64 (n:Int),.slice (A0f es) .none],.ro [.int .i64 (n:Int),.slice (A0f es)],.box (iC d),.box (iC s),.roC [.tree (.int .i64 (n:Int)),.tree (.slice (A0f es)),.tree (.int .i64 (q:Int)),.ref 2 1 0 n n,.ref 3 1 0 n n,.tree (.int .i64 0)]] [.c (.ptr 4 0)] [.box [.int .i64 (n:Int),.slice (A0f es) .none],.ro [.int .i64 (n:Int),.slice (A0f es)],.box (iC d),.box (iC s),.roC [.tree (.int .i64 (n:Int)),.tree (.slice (A0f es)),.tree (.int .i64 (q:Int)),.ref 2 1 0 n n,.ref 3 1 0 n n,.tree (.int .i64 0)]] (.c (.slice (A0o B) .none)):=
 ((B0G n q es d s h1 h12 hq hd hs hl hm B pB hB hBl).trim (by simp) (show 5<6 by decide) (fun b hb=>by
  rcases XW.1 hb with hb | hb
  ·exact B2h n q es d s (m:=6) (by decide) b hb
  ·rw [Zz] at hb; subst hb; exact A1g)).data (QQ _) (B2h n q es d s (m:=5) (by decide)) (B3Y B) (by rw [A0d,hBl]) (QQ _) (fun r hr=>A1c hr) (B14 B)
def A6u (far:List Int) (k:Int) (n i:Nat):List Bool:=(List.range n).map fun v=>decide (v<i)&&decide (far.getD v 0<k)
theorem A8O (far:List Int) (k:Int) (n i:Nat):(A6u far k n i).length=n:=by simp [A6u]
theorem B2k (far:List Int) (k:Int) (n i v:Nat):(A6u far k n i)[v]? =if v<n then some (decide (v<i)&&decide (far.getD v 0<k)) else none:=by
 unfold A6u;rw [QY];by_cases h:v<n
 ·rw [if_pos h,Yw h]; rfl
 ·rw [if_neg h,QV (by simpa using h)]; rfl
theorem B8M (far:List Int) (k:Int) {n i:Nat} (hi:i<n):(A6u far k n i).set i (decide (far.getD i 0<k))=A6u far k n (i+1):=by
 apply XZ;intro j;rw [Qj5,A8O,B2k,B2k];by_cases e:i=j
 ·subst e;rw [if_pos rfl,if_pos hi,if_pos hi,decide_eq_true (show i<i+1 by omega)]; rfl
 ·rw [if_neg e];by_cases h:j<n
  ·rw [if_pos h,if_pos h,decide_eq_decide.2 (show j<i↔j<i+1 by omega)]
  ·rw [if_neg h,if_neg h]
theorem B5W (far:List Int) (k:Int) (n:Nat):A6u far k n 0=List.replicate n false:=by
 apply Qz0
 ·simp [A6u]
 ·intro i h1 h2; simp [A6u]
set_option maxHeartbeats 1000000
def jnS (es:List E) (A:List Bool) (v:Nat):Int:=joinL (fun u=> !A.getD u.toNat false) (lnkL es v)
def minS (es:List E) (d:List Int) (A:List Bool):Nat->Int
 | 0=>0
 | v+1=>if A.getD v false=true∧0<jnS es A v then (if minS es d A v=0∨(d.getD v 0).tdiv (jnS es A v)<minS es d A v then (d.getD v 0).tdiv (jnS es A v) else minS es d A v) else minS es d A v
def A9T (n:Nat) (B:List Bool):List Bool:=B0Q B n n
def C2G (n:Nat) (es:List E) (B:List Bool) (w:List Int×List Int):List Int×List Int:=
 (C2q es (minS es w.1 (A9T n B) n) (A9T n B) n w.1,C07 (minS es w.1 (A9T n B) n) (A9T n B) n w.2)
inductive SEnd (es:List E) (n q:Nat):List Int×List Int->List Int×List Int->List Bool->Prop where
 | stop {w:List Int×List Int} {B:List Bool}:BEnd es w.1 n (A8K n q) B->B.length=n->A6r B n=false->SEnd es n q w w B
 | go {w W:List Int×List Int} {B Z:List Bool}:BEnd es w.1 n (A8K n q) B->B.length=n->A6r B n=true->C4E es w.1 q B->(∀v,v<n->C3b es w.1 B v=false)->SEnd es n q (C2G n es B w) W Z->SEnd es n q w W Z
section
variable {n:Nat} {es:List E}
structure SInv (n:Nat) (es:List E) (q:Nat) (d0:List Int) (X Y sq:Int) (w:List Int×List Int):Prop where
 dl:w.1.length=n
 sl:w.2.length=n
 led:Led n es d0 w.1 w.2
 don: ∀v,v<n->v≠q->0≤w.1.getD v 0
 dq: -X≤w.1.getD q 0
 low: ∀v,v<n-> -Y≤w.2.getD v 0
 sq:w.2.getD q 0=sq
end
theorem B5X (n q:Nat) (es:List E) (d s:List Int) (h1:1≤n) (h12:n≤12) (hq:q<n) (hd:d.length=n) (hs:s.length=n) (hl:es.length≤40) (hm: ∀e,e∈es->(0≤e.a∧e.a<n)∧(0≤e.b∧e.b<n)∧0≤e.m∧e.m≤50) (B:List Bool) (hB:BEnd es d n (A8K n q) B) (hBl:B.length=n):
  ACallH Tryz.prog 163 [.box [.int .i64 (n:Int),.slice (A0f es) .none],.ro [.int .i64 (n:Int),.slice (A0f es)],.box (iC d),.box (iC s),.roC [.tree (.int .i64 (n:Int)),.tree (.slice (A0f es)),.tree (.int .i64 (q:Int)),.ref 2 1 0 n n,.ref 3 1 0 n n,.tree (.int .i64 0)]] [.c (.ptr 4 0)] [.box [.int .i64 (n:Int),.slice (A0f es) .none],.ro [.int .i64 (n:Int),.slice (A0f es)],.box (iC d),.box (iC s),.roC [.tree (.int .i64 (n:Int)),.tree (.slice (A0f es)),.tree (.int .i64 (q:Int)),.ref 2 1 0 n n,.ref 3 1 0 n n,.tree (.int .i64 0)]] (.tup [.c (.slice (A3Z (A9T n B)) .none),.c (.bool (A6r B n))]):=by
 obtain ⟨X,hX⟩:=B3y n q es d s h1 h12 hq hd hs hl hm B hB hBl;refine hX.trim (QQ _) (fun x hx=> ?_) (B2h n q es d s (m:=5) (by decide));simp only [Qw,Qk,or_false] at hx;rcases hx with rfl | rfl<;>exact Qw4
end Go.Proofs.YtdbdfkohpjefjaaGreat
