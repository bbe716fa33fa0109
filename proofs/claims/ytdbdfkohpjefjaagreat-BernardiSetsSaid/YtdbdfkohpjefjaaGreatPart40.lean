/- A part of the proof. -/
import Derived.Test.YtdbdfkohpjefjaaGreatPart35
import Derived.Test.YtdbdfkohpjefjaaGreatPart36
import Derived.Test.YtdbdfkohpjefjaaGreatPart34
set_option linter.all false
set_option maxHeartbeats 4000000
set_option maxRecDepth 100000
namespace Go.Proofs.YtdbdfkohpjefjaaGreat
open Go.Sp
theorem B2j (n q:Nat) (es:List E) (d s:List Int) {m:Nat} (hm:4≤m):A1r m [.box [.int .i64 (n:Int),.slice (A0f es) .none],.ro [.int .i64 (n:Int),.slice (A0f es)],.box (iC d),.box (iC s),.roC [.tree (.int .i64 (n:Int)),.tree (.slice (A0f es)),.tree (.int .i64 (q:Int)),.ref 2 1 0 n n,.ref 3 1 0 n n,.tree (.int .i64 0)]]:=by
 have hg:blkIn m (.box [.int .i64 (n:Int),.slice (A0f es) .none]):=by intro c hc; simp only [Qw,Qv,or_false] at hc; rcases hc with rfl | rfl<;>exact Qw6
 exact A0k hg (A0k Qw6 (A0k A1d (A0k A1d (A0k (A0F hm) (A0r _)))))
theorem B2k (v:Nat) (Q:List Nat):A0o (zI (v::Q))=[.int .i64 (v:Int)]::A0o (zI Q):=rfl
theorem B0M (n q:Nat) (es:List E) (d s:List Int) (h1:1≤n) (h12:n≤12) (hq:q<n) (hd:d.length=n) (hs:s.length=n) (hl:es.length≤40) (hm: ∀e,e∈es->(0≤e.a∧e.a<n)∧(0≤e.b∧e.b<n)∧0≤e.m∧e.m≤50) (B:List Int) (pB:Nat) (hB:DEnd es (A7s n q,[q],0) B pB) (hBl:B.length=n):
  ACallH Tryz.prog 158 [.box [.int .i64 (n:Int),.slice (A0f es) .none],.ro [.int .i64 (n:Int),.slice (A0f es)],.box (iC d),.box (iC s),.roC [.tree (.int .i64 (n:Int)),.tree (.slice (A0f es)),.tree (.int .i64 (q:Int)),.ref 2 1 0 n n,.ref 3 1 0 n n,.tree (.int .i64 0)]] [.c (.ptr 4 0)] (([.box [.int .i64 (n:Int),.slice (A0f es) .none],.ro [.int .i64 (n:Int),.slice (A0f es)],.box (iC d),.box (iC s),.roC [.tree (.int .i64 (n:Int)),.tree (.slice (A0f es)),.tree (.int .i64 (q:Int)),.ref 2 1 0 n n,.ref 3 1 0 n n,.tree (.int .i64 0)]]++[.box (iC B)])++[.box [.ref 5 1 0 n n],.box [.slice [] (.tail 8 pB)],.chain pB 1]) (.c (.ref 5 1 0 n n)):=by
 have hlk:=fun H v h4=>B8a (H:=H) n q es v h4;have hI:=fun (v:Nat) (hv:v<n)=>B1F n es v (by omega) (fun e he=>by have:=hm e he; omega) (by omega);have hkb: ∀(v:Nat) x,x∈lnkL es v->0≤x.1∧x.1<n:=fun v x hx=>by
  obtain ⟨e,he,e1,_,e2⟩:=A6M hx;have:=hm e he;rcases e2 with ⟨_,e2⟩ | ⟨_,e2⟩<;>(rw [e2]; omega)
 have hqI:(q:Int)<(n:Int):=by omega
 have hRp:=B8n n (by omega) [.box [.int .i64 (n:Int),.slice (A0f es) .none],.ro [.int .i64 (n:Int),.slice (A0f es)],.box (iC d),.box (iC s),.roC [.tree (.int .i64 (n:Int)),.tree (.slice (A0f es)),.tree (.int .i64 (q:Int)),.ref 2 1 0 n n,.ref 3 1 0 n n,.tree (.int .i64 0)]] (fun b hb=>B2j n q es d s (m:=6) (by decide) b hb);have hdn:iC d≠[]:=B7Z (by intro e; rw [e] at hd; simp at hd; omega);have hsn:iC s≠[]:=B7Z (by intro e; rw [e] at hs; simp at hs; omega);have hne: ∀{x:List Int},x.length=n->iC x≠[]:=fun {x} hx=>B7Z (by intro e; rw [e] at hx; simp at hx; omega);have hrl:(List.replicate n (-1):List Int).length=n:=by simp
 have hr0:=A94 (List.replicate n (-1)) q 0;have hr0':(iC (List.replicate n (-1))).set q (.int .i64 0)=iC (A7s n q):=hr0;have hw0:=B45 (es:=es) hq;simp only [List.cons_append,List.nil_append] at hRp ⊢;refine ACallH.of_body Tryz.func158 rfl (by kernel_rfl) ?_;simp only [entry,Tryz.ntmps158,List.length_cons,List.length_nil,Nat.reduceAdd,Nat.reduceSub,List.replicate_succ,List.replicate_zero,List.cons_append,List.nil_append];refine zJc Qw8 (zc @hqI (zc @hr0' (zc @hrl (zc @A11 (zc @Xk Qw8))))) Qw8 (zc hRp Qw8) Qw8 ?_;refine AWp.weak (Weak.tailB 7 0 1 rfl rfl (by simp)) ?_;simp only [List.set_cons_succ,List.set_cons_zero,List.length_cons,List.length_nil,Xw,Nat.reduceAdd,List.cons_append,List.nil_append];refine AWp.loopS (α:=BS3) 56 (fun w=>[(0,.c (.ptr 4 0)),(3,.c (.ptr 6 0)),(4,.c (.ptr 7 0))]) (fun w=>[.box [.int .i64 (n:Int),.slice (A0f es) .none],.ro [.int .i64 (n:Int),.slice (A0f es)],.box (iC d),.box (iC s),.roC [.tree (.int .i64 (n:Int)),.tree (.slice (A0f es)),.tree (.int .i64 (q:Int)),.ref 2 1 0 n n,.ref 3 1 0 n n,.tree (.int .i64 0)],.box (iC w.1),.box [.ref 5 1 0 n n],.box [.slice (A0o (zI w.2.1)) (.tail 8 w.2.2)],.chain w.2.2 1]) (fun w=>DEnd es w B pB∧BFq es n q w.1 w.2.1∧2*cntNeg w.1+w.2.1.length≤30) (fun w=>2*cntNeg w.1+w.2.1.length) ((A7s n q,[q],0)) (hk:=Weak.headL 9 56 [0,3,4] (zV3 @A1d @A0E @A0F)) (h0:=?_) (round:=fun w hI=>?_)
 ·refine ⟨hB,hw0,?_⟩;have:=hw0.bnd q hq;have:=hw0.q0;show 2*cntNeg (A7s n q)+1≤30;omega
 ·obtain ⟨o,Q,p⟩:=w;obtain ⟨hE,hF,hQb⟩:=hI;simp only at hE hF hQb ⊢;cases Q with
  | nil=>
   cases hE;have e0:(A0o (zI ([]:List Nat))).length=0:=rfl;have e1:A0o (zI ([]:List Nat))=[]:=rfl;refine zR (zc @e0 (zc @e1 Qw8)) Qw8 Qw8 ?_;simp [A4y,A1S,A0t,A1R,Tryz.results158]
  | cons v Q=>
   have hP:=hF.pop;have hvn:=hP.vv.1;have hvI:(v:Int)<(n:Int):=by omega
   cases hE with
   | go hE=>
   have hall:=PBq.all (s:=(o,Q,p)) (hkb v) hP;have hcn:=PBq.cnt (s:=(o,Q,p)) (hkb v) hP;have hIk:=hI v hvn;have hkbv:=hkb v;have el:(0:Int)<((Q.length+1:Nat):Int):=by omega
   have hneJ: ∀l,iC (List.foldl (stepD v) (o,Q,p) l).1≠[]:=fun l=>hne ((B2d v l (o,Q,p)).trans hF.len);rw [B2k];have hQl:=hF.len
   repeat' (first|((with_reducible refine AWp.seq (AWp.of_reg (id:=6) (AReg.pre 1 (fun K hK=>?_))));simp only [List.take_succ_cons,List.take_zero])|((with_reducible refine AWp.of_reg (id:=6) (AReg.pre 1 (fun K hK=>?_)));simp only [List.take_succ_cons,List.take_zero])|((first|(refine zT ?_;intro K' hK')|(refine zG ?_ ?_<;>(try refine zH ?_)<;>intro hguard<;>(try exact zX)<;>try intro K' hK'))<;>((try simp+contextual only [go_sem,el,A0e,A2d,Int.toNat_natCast]);(repeat' first|(with_reducible refine hK' _ _ ?_;clear hK' K')|exact zY|with_reducible refine Qw7 ?_ ?_|(with_reducible intro hpath;try exact zP)|(refine hK' _ _ ?_;clear hK' K')|fail);try refine zS ?_))|(refine zE ?_;refine hK _ _ ?_;clear hK K)|(refine zN ?_;try refine zS ?_)|refine zA ?_|(refine zB ?_;intro K hK)|(refine zC ?_ ?_<;>(try refine zH ?_)<;>intro hcond<;>try exact zX)|fail)
   simp only [Zk,ZJ];refine AReg.step rfl rfl (A7o (k:=1) (i:=8) (p:=p) (rows:=[.int .i64 (v:Int)]::A0o (zI Q)) (l:=1) _ _ _ rfl 3 (by simp only [ty]) (by simp only [ty]) (.inr rfl) rfl (fun r hr=>by rcases Qw.1 hr with rfl | hr; exact rfl; exact A1s hr) rfl (by decide) (by rw [List.length_cons]; omega)) ?_;simp only [A1e,List.set_cons_succ,List.set_cons_zero,Int.toNat_one,Zk,ZJ];refine AReg.rest (fun K hK=> ?_)
   repeat' (first|((first|(refine zT ?_;intro K' hK')|(refine zG ?_ ?_<;>(try refine zH ?_)<;>intro hguard<;>(try exact zX)<;>try intro K' hK'))<;>((try simp+contextual only [go_sem,ofT,A2G,A03,Xy,Zx]);(repeat' first|(with_reducible refine hK' _ _ ?_;clear hK' K')|((with_reducible first|refine ⟨_,_,hlk _ _ rfl,?_⟩|refine ⟨_,hlk _ _ rfl,?_⟩);try simp+contextual only [go_sem,ofT,A2G,A03,Xy,Zx])|exact zY|with_reducible refine Qw7 ?_ ?_|(with_reducible intro hpath;try exact zP)|(refine hK' _ _ ?_;clear hK' K')|fail);try refine zS ?_))|(refine zE ?_;refine hK _ _ ?_;clear hK K)|(refine zN ?_;try refine zS ?_)|refine zA ?_|(refine zB ?_;intro K hK)|(refine zC ?_ ?_<;>(try refine zH ?_)<;>intro hcond<;>try exact zX)|fail)
   refine AWp.weak (Weak.head (m:=10) (by omega) ((fun t f=>[t,f,f,t,t,t,f,f,f,f,f,f,f,f,f,f,f,f,f,f,f,f,f,f,f,f,f,f,f,f,f,f,f,f,f,t,f,f,f,f,f,f,f,f,f,f,f,f,f,f,f,f,f,f,f,f]) true false) (by first | rfl | simp [mask]) (by first | rfl | simp) (by (repeat' (first | exact A0l _ | refine A0i ?_ ?_ | refine A0g ?_ ?_ | exact A0h _ | exact Qw6 | (show _<_; omega) | (intro c hc; cases hc; done) | (intro c hc; simp only [Qw,Qv,or_false] at hc; subst hc; first | exact Qw6 | (show _<_; omega)) | (intro c hc; simp only [Qw,Qv,or_false] at hc; rcases hc with rfl | rfl<;>first | exact Qw6 | (show _<_; omega))))) (by (repeat' (first | exact A0l _ | exact A0r _ | exact A0h _ | refine Qw7 ?_ ?_ | refine A0i ?_ ?_ | refine A0k ?_ ?_ | refine A0g ?_ ?_ | exact Qw6 | exact A1d | exact A0E | exact A0F (by omega) | (show _<_; omega) | exact A0p (fun _=>Qw6) | (intro c hc; cases hc; done) | (intro c hc; simp only [Qw,Qv,or_false] at hc; subst hc; first | exact Qw6 | exact A1d | exact A0E | exact A0F (by omega) | (show _<_; omega)) | (intro c hc; simp only [Qw,Qv,or_false] at hc; rcases hc with rfl | rfl<;>first | exact Qw6 | exact A1d | exact A0E | exact A0F (by omega) | (show _<_; omega)))))) (AWp.rangeFunc (fun j H=>H=[.box [.int .i64 (n:Int),.slice (A0f es) .none],.ro [.int .i64 (n:Int),.slice (A0f es)],.box (iC d),.box (iC s),.roC [.tree (.int .i64 (n:Int)),.tree (.slice (A0f es)),.tree (.int .i64 (q:Int)),.ref 2 1 0 n n,.ref 3 1 0 n n,.tree (.int .i64 0)],.box (iC (((lnkL es v).take j).foldl (stepD v) (o,Q,p)).1),.box [.ref 5 1 0 n n],.box [.slice (A0o (zI (((lnkL es v).take j).foldl (stepD v) (o,Q,p)).2.1)) (.tail 8 (((lnkL es v).take j).foldl (stepD v) (o,Q,p)).2.2)],.chain (((lnkL es v).take j).foldl (stepD v) (o,Q,p)).2.2 1,.box [.int .i64 (v:Int)]]∧(True)) (fun _ _=>False) 10 rfl (hIk) (B1S rfl) (by omega) (by (repeat' (first | exact A0l _ | refine A0i ?_ ?_ | refine A0g ?_ ?_ | exact A0h _ | exact Qw6 | (show _<_; omega) | (intro c hc; cases hc; done) | (intro c hc; simp only [Qw,Qv,or_false] at hc; subst hc; first | exact Qw6 | (show _<_; omega)) | (intro c hc; simp only [Qw,Qv,or_false] at hc; rcases hc with rfl | rfl<;>first | exact Qw6 | (show _<_; omega))))) (by rintro _ _ ⟨rfl,-⟩; simp [hdn,hsn,hneJ]) (fun _ _ h=>h.elim) ?_ (fun l j ts H hts hI=> ?_) (fun H hI=> ?_) (fun e H h=>h.elim))
   ·exact ⟨rfl,trivial⟩
   ·obtain ⟨rfl,-⟩:=hI;obtain ⟨x,hx,rfl⟩:=A6F hts;have hj:j<(lnkL es v).length:=(Qx.1 hx).1;have hxb:=hkbv x (Qy hx);have hnx:=B5X v (o,Q,p) hx;have hPj:=hall j (by omega);have hcj:=hcn j (by omega);rw [List.length_cons] at hQb;have hlj:=hPj.len;have hbj:=hPj.bnd v hvn;have hcn0:=hPj.vv.2;have hqm:=hPj.qm;generalize ((lnkL es v).take j).foldl (stepD v) (o,Q,p)=sj at*;generalize hnj:((lnkL es v).take (j+1)).foldl (stepD v) (o,Q,p)=sj1 at*;obtain ⟨oj,Qj,pj⟩:=sj;obtain ⟨u,m⟩:=x;obtain ⟨u1,u2⟩:=hxb;obtain ⟨z,rfl⟩:=XV u1;have hzI:(z:Int)<(n:Int):=u2;unfold stepD at hnx;simp only [Int.toNat_natCast] at hnx hlj hbj hcj hcn0 ⊢;have g1:=A5Y (A1j (d:=oj) (i:=z) (by omega));have g2:=A5Y (A1j (d:=oj) (i:=v) (by omega));have hst:=A94 oj z (oj.getD v 0+1);generalize oj.getD z 0=oz at*;generalize oj.getD v 0=ov at*;simp only [mask,A4e,List.zip_cons_cons,WQ,List.zip_nil_left,List.foldl_cons,List.foldl_nil,List.set_cons_succ,List.set_cons_zero,ofT,A2G,A03,Xy,Zx,ofT,A2G,toT,A0u,A0a,A0m,A0v,A3a,tG,A0B,A0n,A9F];by_cases hneg:oz<0
    ·rw [if_pos hneg] at hnx;have hzs:=B0A Qj z;have hzl:=A2d Qj;refine zRc (zc @hzI (zc @hvI (zc @g1 (zc @g2 (zc @hst (zc @hneg (zc @A11 (zc @hlj (zc @A0e (zc @A1O (zc @hzs (zc @hzl (zc @Xk Qw8))))))))))))) Qw8 @A1s ?_;refine ⟨⟨_,_⟩,Weak.head2 (m:=10) (by decide) ((fun t f=>[f,f,f,f,f,f,f,f,f,f,f,f,f,f,f,f,f,f,f,f,f,f,f,f,f,f,f,f,f,f,f,f,f,f,f,f,f,f,f,f,f,f,f,f,f,f,f,f,f,f,f,f,f,f,f,f]) true false) rfl rfl (zV3 @A1d @A0E @A0F),?_,?_⟩
     ·rw [hnj,hnx]; rfl
     ·trivial
    ·rw [if_neg hneg] at hnx;refine zR (zc @hzI (zc @g1 (zc @hneg (zc @A11 (zc @hlj (zc @Xk Qw8)))))) Qw8 Qw8 ?_;refine ⟨⟨_,_⟩,Weak.head2 (m:=10) (by decide) ((fun t f=>[f,f,f,f,f,f,f,f,f,f,f,f,f,f,f,f,f,f,f,f,f,f,f,f,f,f,f,f,f,f,f,f,f,f,f,f,f,f,f,f,f,f,f,f,f,f,f,f,f,f,f,f,f,f,f,f]) true false) rfl rfl (zV3 @A1d @A0E @A0F),?_,?_⟩
     ·rw [hnj,hnx]; rfl
     ·trivial
   ·obtain ⟨rfl,-⟩:=hI;rw [A6E,Zw];have hd1:=hall _ (QQ _);have hc1:=hcn _ (QQ _);rw [Zw] at hd1 hc1;simp only [mask];refine zR Qw8 Qw8 Qw8 ?_;refine ⟨B6x es v (o,Q,p),Weak.headN 9 56 [0,3,4] (zV3 @A1d @A0E @A0F),?_,?_⟩
    ·refine ⟨hE,hd1.done,?_⟩;rw [List.length_cons] at hQb;show 2*cntNeg (B6x es v (o,Q,p)).1+(B6x es v (o,Q,p)).2.1.length≤30;have:2*cntNeg (B6x es v (o,Q,p)).1+(B6x es v (o,Q,p)).2.1.length≤2*cntNeg o+Q.length:=hc1;omega
    ·show 2*cntNeg (B6x es v (o,Q,p)).1+(B6x es v (o,Q,p)).2.1.length<2*cntNeg o+(v::Q).length;rw [List.length_cons];have:2*cntNeg (B6x es v (o,Q,p)).1+(B6x es v (o,Q,p)).2.1.length≤2*cntNeg o+Q.length:=hc1;omega
def B0N (p:Nat->Bool):Nat->Nat
 | 0=>0
 | n+1=>(if p n=true then 2^n else 0)+B0N p n
theorem B0O (p:Nat->Bool): ∀n,B0N p n<2^n
 | 0=>by simp [B0N]
 | n+1=>by
  have:=B0O p n;unfold B0N;rw [Nat.pow_succ];split<;>omega
theorem A6q (w v:Nat):B0V w v=1↔w.testBit v=true:=by
 unfold B0V;rw [Nat.testBit_eq_decide_div_mod_eq,decide_eq_true_eq]
theorem A3G (p:Nat->Bool): ∀n v,v<n->(B0N p n).testBit v=p v
 | 0,v,h=>by omega
 | n+1,v,h=>by
  have hl:=B0O p n;unfold B0N;by_cases e:v=n
  ·subst e;cases hp:p v with
   | true=>rw [if_pos rfl,Nat.testBit_two_pow_add_eq,Qx1 hl]; rfl
   | false=>rw [if_neg (by simp),Xk,Qx1 hl]
  ·have ih:=A3G p n v (by omega);split
   ·rw [Nat.testBit_two_pow_add_gt (by omega),ih]
   ·rw [Xk,ih]
structure MinC (g:G) (n:Nat) (w:Nat):Prop where
 c:checkG g=0
 n':g.n=n
 n2:2≤n
 odd:w%2=1
 lt:w<2^n-1
 eq:connW n g.es (2^n-1)=(cutW w g.es,setN n w)
 mn: ∀w',w'%2=1->w'<2^n-1->cutW w g.es≤cutW w' g.es
section
variable {g:G} {n w:Nat}
end
noncomputable def A3X (g:G):Nat->List (List Int)
 | 0=>[]
 | w+1=>if treeB g.n.toNat (endsL g.es) (zI (setN (endsL g.es).length w))=true then A3X g w++[zI (setN (endsL g.es).length w)] else A3X g w
theorem B4B (g:G): ∀w,(A3X g w).length≤w
 | 0=>by simp [A3X]
 | w+1=>by have:=B4B g w; unfold A3X; split<;>simp<;>omega
theorem A7A {g:G} {x:List Int}: ∀{m:Nat},x∈A3X g m↔ ∃w,w<m∧x=zI (setN (endsL g.es).length w)∧treeB g.n.toNat (endsL g.es) x=true
 | 0=>by simp [A3X]
 | m+1=>by
  have ih:= @A7A g x m;unfold A3X;constructor
  ·intro h;split at h
   ·rename_i ht;rcases XZ.1 h with h | h
    ·obtain ⟨w,hw,q⟩:=ih.1 h; exact ⟨w,by omega,q⟩
    ·rw [XJ] at h; exact ⟨m,by omega,h,by rw [h]; exact ht⟩
   ·obtain ⟨w,hw,q⟩:=ih.1 h; exact ⟨w,by omega,q⟩
  ·rintro ⟨w,hw,rfl,q⟩;by_cases e:w=m
   ·subst e; rw [if_pos q]; simp
   ·have:=ih.2 ⟨w,by omega,rfl,q⟩;split
    ·exact Qj4 _ this
    ·exact this
noncomputable def A8I (g:G):List (List Int):=sortLL (A3X g (2^(endsL g.es).length))
theorem B8U (g:G) (hc:checkG g=0) (hl:g.es.length≤40) (hE:(endsL g.es).length≤20):ACall Tryz.prog 60 [tG g] (A0N (A8I g)):=by
 have hs:=B5p (g:=g) (by omega) hc;have hZ:=A70 g hs.s hs.es hs.m;have hS:=fun w hw=>C2R (endsL g.es).length w (by omega) hw
 have hIs:=fun w=>C5c g (zI (setN (endsL g.es).length w)) hl hc (fun x hx=>by
  obtain ⟨a,rfl,ha,-⟩:=B42.1 hx; omega) (by rw [A2d]; have:=A28 (endsL g.es).length w; omega)
 have hzl: ∀w,(zI (setN (endsL g.es).length w)).length≤20:=fun w=>by rw [A2d]; have:=A28 (endsL g.es).length w; omega
 have hsl:=B4B g;have hsu: ∀w,A3X g (w+1)=if treeB g.n.toNat (endsL g.es) (zI (setN (endsL g.es).length w))=true then A3X g w++[zI (setN (endsL g.es).length w)] else A3X g w:=fun _=>rfl
 have hpE:2^(endsL g.es).length≤2^20:=Vy (by omega) hE
 have hO:ACall Tryz.prog 104 [A0N (A3X g (2^(endsL g.es).length))] (A0N (A8I g)):=B5V _ (by have:=hsl (2^(endsL g.es).length); omega) (fun x hx=>by
  obtain ⟨w,-,rfl,-⟩:=A7A.1 hx
  have:=hzl w; omega)
 have hz:A0o []=A0x (A3X g 0):=rfl;have hz1:(A3X g 0).length=0:=rfl;generalize A8I g=R at*;generalize A3X g=sp at*;obtain ⟨n,es⟩:=g;simp only at*;generalize treeB n.toNat (endsL es)=tB at*;generalize endsL es=L at*;generalize L.length=E at*;refine ACall.of_body Tryz.func60 rfl (by kernel_rfl) ?_;simp only [entry,Tryz.ntmps60,tG];refine zU ?_;refine zR Qw8 (zc hZ Qw8) Qw8 ?_;rw [show (1:Int)=((2^0:Nat):Int) from rfl];refine AWp.loopS (α:=Nat) 35 (fun i=>[(1,.c (.ptr 0 0)),(3,.c (.int .i64 (E:Int))),(4,.c (.int .i64 ((2^i:Nat):Int))),(5,.c (.int .i64 (i:Int)))]) (fun i=>[.box [.int .i64 n,.slice (A0f es) .none]]) (fun i=>i≤E) (fun i=>E-i) (0) (hk:=Weak.headL 1 35 [1,3,4,5] zW) (h0:=?_) (round:=fun i hI=>?_)
 ·exact Xj _
 ·have hi:i≤E:=hI;clear hI;by_cases hlt:i<E
  ·have hltI:(i:Int)<(E:Int):=by omega
   have hp:2^(i+1)=2^i*2:=Nat.pow_succ 2 i;have hpl:2^i≤2^20:=Vy (by omega) (by omega);generalize hQ:2^(i+1)=Q1 at*;generalize 2^i=Q at*;have hpI:(Q:Int)*2=(Q1:Int):=by omega
   refine zR (zc @hltI (zc @hpI Qw8)) Qw8 Qw8 ?_;refine ⟨i+1,Weak.headF 1 35 [1,3,4,5] (zc @hQ Qw8) zW,?_,?_⟩
   ·exact hlt
   ·omega
  ·have ei:i=E:=by omega
   have hnl: ¬(i:Int)<(E:Int):=by omega
   rw [ei] at hnl;rw [ei];clear hlt hi ei;generalize 2^E=P at*;refine zJ (stop 9) (zc @hnl Qw8) Qw8 Qw8 Qw8 ?_;refine AWp.weak (Weak.opens ((fun t f=>[f,f,f,f,f,f,t,f,f,f,f,f,f,f,f,f,f,f,f,f,f,f,f,f,f,f,f,f,f,f,f,f,f,f,f]) true false) 1 (by first | omega | simp)) ?_;simp only [A2i,A66,List.length_cons,List.length_nil,Xw,Nat.reduceAdd,List.cons_append,List.nil_append];refine zR Qw8 Qw8 Qw8 ?_;rw [show AVal.c (ACell.slice [] (.chain 1))=AVal.c (ACell.slice (A0x (sp 0)) (.chain 1)) by rw [<-hz]; rfl,show Blk.chain 0 1=Blk.chain (sp 0).length 1 by rw [hz1]];refine AWp.loopS (α:=Nat) 35 (fun w=>[(1,.c (.ptr 0 0)),(3,.c (.int .i64 (E:Int))),(4,.c (.int .i64 (P:Int))),(6,.c (.slice (A0x (sp w)) (.chain 1))),(7,.c (.int .i64 (w:Int)))]) (fun w=>[.box [.int .i64 n,.slice (A0f es) .none],.chain (sp w).length 1]) (fun w=>w≤P) (fun w=>P-w) (0) (hk:=Weak.headL 2 35 [1,3,4,6,7] zW) (h0:=?_) (round:=fun w hI=>?_)
   ·exact Xj _
   ·have hw:w≤P:=hI;clear hI;by_cases hwl:w<P
    ·have hwI:(w:Int)<(P:Int):=by omega
     have hS1:=hS w (by omega);have hI1:=hIs w;have hs1:=hsu w;have hl1:=hsl w;generalize zI (setN E w)=T at*;generalize hX1:sp (w+1)=X1 at*;generalize sp w=X at*;by_cases hb:tB T=true
     ·rw [if_pos hb] at hs1;rw [hb] at hI1;have hln:X1.length=X.length+1:=by rw [hs1]; simp
      refine zRc (zc @hwI (zc @A0q (zc @A3Q Qw8))) (zc hS1 (zc hI1 Qw8)) @A2u ?_;rw [<-hs1];refine ⟨w+1,Weak.headF 2 35 [1,3,4,6,7] (zc @hX1 (zc @hln Qw8)) zW,?_,?_⟩
      ·exact hwl
      ·omega
     ·rw [if_neg hb] at hs1;have hb:tB T=false:=by simpa using hb
      rw [hb] at hI1;refine zR (zc @hwI Qw8) (zc hS1 (zc hI1 Qw8)) Qw8 ?_;rw [<-hs1];refine ⟨w+1,Weak.headF 2 35 [1,3,4,6,7] (zc @hX1 Qw8) zW,?_,?_⟩
      ·exact hwl
      ·omega
    ·have ew:w=P:=by omega
     have hnl: ¬(w:Int)<(P:Int):=by omega
     rw [ew] at hnl;rw [ew];generalize sp P=X at*;refine zR (zc @hnl Qw8) (zc hO Qw8) Qw8 ?_;simp [A0z,A0y,Blk.cells,ty,Tryz.results60,A0t,A0u,toT,A0d,A0b,A0c,A0a,A0N]
set_option maxHeartbeats 1000000
set_option maxHeartbeats 1000000
section
variable {n:Nat} {es:List E}
theorem C4q (h:EsOk n es) {v:Nat} {x:Int×Int} (hx:x∈lnkL es v):x.1.toNat<n∧x.1.toNat≠v∧0≤x.1:=by
 obtain ⟨e,he,_,hne,hab⟩:=A6M hx;have:=h.rng e he;rcases hab with ⟨q1,q2⟩ | ⟨q1,q2⟩<;>omega
def C5D (R:List Bool):Nat->Bool:=fun v=>R.getD v false
def Led (n:Nat) (es:List E) (d0 d s:List Int):Prop:= ∀w,w<n->d.getD w 0=d0.getD w 0-lap n (mulE es) (fun u=>s.getD u 0) w
end
def sC (O:List (List Int)):List ACell:=O.map fun x=> .slice (A0o x) .none
theorem C3a {m:Nat} {O:List (List Int)}:Go.Sp.cellsIn m (sC O):=fun c hc=>by
 obtain ⟨x,_,rfl⟩:=Xq.1 hc; exact Qw6
theorem C1C (O:List (List Int)):(sC O).length=O.length:=by simp [sC]
theorem C3b (O:List (List Int)):flatRows (A0x O)=sC O:=by
 unfold flatRows A0x sC
 induction O with
 | nil=>rfl
 | cons x l ih=>simp only [Xy,List.flatten_cons,WY,Zx,List.singleton_append] at ih ⊢; rw [ih]; rfl
theorem C3c (O:List (List Int)):(sC O).mapM A0a=some (O.map fun x=>Tree.slice (A0o x))∧chunks 1 O.length (O.map fun x=>Tree.slice (A0o x))=A0x O:=by
 unfold sC;constructor
 ·induction O with
  | nil=>rfl
  | cons x l ih=>simp only [Xy,Jw,ih]; rfl
 ·have h:=B3d (O.map fun x=>Tree.slice (A0o x));rw [XW] at h;rw [h]; simp [A0x]
set_option maxHeartbeats 1000000
def C5i (far:List Int) (k:Int):List Bool:=far.map fun x=>decide (x<k)
section
variable {n:Nat} {es:List E}
structure LInv (n:Nat) (es:List E) (far d0:List Int) (k X:Int) (w:List Int×List Int):Prop where
 dl:w.1.length=n
 sl:w.2.length=n
 led:Led n es d0 w.1 w.2
 db:bndL X w.1
 sb:bndL X w.2
 sp: ∀v,0≤w.2.getD v 0
 don: ∀v,v<n->k<far.getD v 0->0≤w.1.getD v 0
def C5q (S:Nat->Bool):List E->Int
 | []=>0
 | e::es=>(if S e.a.toNat≠S e.b.toNat then e.m else 0)+C5q S es
def levF (es:List E) (far:List Int) (k:Nat):Int:=C5q (C5D (C5i far (k:Int))) es
def powF (z:Nat->Int) (X:Int):Nat->Int
 | 0=>X
 | k+1=>powF z (X+z (k+1)*X) k
end
end Go.Proofs.YtdbdfkohpjefjaaGreat
