/- A part of the proof. -/
import Derived.Test.YtdbdfkohpjefjaaGreatPart22
import Derived.Test.YtdbdfkohpjefjaaGreatPart21
set_option linter.all false
set_option maxHeartbeats 4000000
set_option maxRecDepth 100000
namespace Go.Proofs.YtdbdfkohpjefjaaGreat
open Go.Sp
section
variable {E n:Nat} {g:Nat->Nat} {t:Nat->Bool}
def B2c (n:Nat) (A:Nat->Bool):Int:=sumR (fun v=>if A v=true then 1 else 0) n
def inE (E:Nat) (g:Nat->Nat) (A:Nat->Bool):Int:=sumR (fun e=>if A (g (2*e))=true∧A (g (2*e+1))=true then 1 else 0) E
def chA (n:Nat) (D:Nat->Int) (A:Nat->Bool):Int:=sumR (fun v=>if A v=true then D v else 0) n
def C5u (E n:Nat) (g:Nat->Nat) (A:Nat->Bool):Prop:= ∀B:Nat->Bool,(∃v,v<n∧A v=true∧B v=true)->(∃v,v<n∧A v=true∧B v=false)-> ∃f,f<E∧A (g (2*f))=true∧A (g (2*f+1))=true∧B (g (2*f))≠B (g (2*f+1))
def B73 (A B:Nat->Bool):B2c n A=B2c n (fun v=>A v&&B v)+B2c n fun v=>A v&& !B v:=by
 unfold B2c;rw [<-A06]; exact A0g fun v _=>by
  show (if A v=true then (1:Int) else 0)=(if (A v&&B v)=true then 1 else 0)+(if (A v&& !B v)=true then 1 else 0);cases A v<;>cases B v<;>simp
def C0A (D:Nat->Int) (A B:Nat->Bool):chA n D A=chA n D (fun v=>A v&&B v)+chA n D fun v=>A v&& !B v:=by
 unfold chA;rw [<-A06]; exact A0g fun v _=>by
  show (if A v=true then D v else 0)=(if (A v&&B v)=true then D v else 0)+(if (A v&& !B v)=true then D v else 0);cases A v<;>cases B v<;>simp
def B1N {A:Nat->Bool} (h: ∃v,v<n∧A v=true):1≤B2c n A:=by
 obtain ⟨v,hv,h⟩:=h;have:=A1p (f:=fun v=>if A v=true then (1:Int) else 0) (n:=n) (fun x _=>by split<;>omega) hv;rw [if_pos h] at this; exact this
def C2X {D:Nat->Int} (hdeg:sumR D n=E-n+1) (h: ∀A:Nat->Bool,(∃v,v<n∧A v=true)->C5u E n g A->inE E g A-B2c n A+1≤chA n D A):BrkD E n g D:=by
 refine ⟨hdeg,?_⟩;have key: ∀(k:Nat) (A:Nat->Bool),B2c n A≤k->(∃v,v<n∧A v=true)->inE E g A-B2c n A+1≤chA n D A:=by
  intro k
  induction k with
  | zero=>intro A hk hA; have:=B1N hA; omega
  | succ k ih=>
   intro A hk hA;by_cases hc:C5u E n g A
   ·exact h A hA hc
   ·obtain ⟨B,h1,h2,h3⟩: ∃B:Nat->Bool,(∃v,v<n∧A v=true∧B v=true)∧(∃v,v<n∧A v=true∧B v=false)∧ ∀f,f<E->A (g (2*f))=true->A (g (2*f+1))=true->B (g (2*f))=B (g (2*f+1)):=by
     refine Xq fun hno=>hc fun B q1 q2=>Xq fun q3=>hno ⟨B,q1,q2,fun f hf a1 a2=>Xq fun q4=>q3 ⟨f,hf,a1,a2,q4⟩⟩
    obtain ⟨v1,hv1,a1,b1⟩:=h1;obtain ⟨v2,hv2,a2,b2⟩:=h2;have s:=B73 (n:=n) A B;have c:=C0A (n:=n) D A B;have p1:=B1N (n:=n) (A:=fun v=>A v&&B v) ⟨v1,hv1,by rw [a1,b1]; rfl⟩;have p2:=B1N (n:=n) (A:=fun v=>A v&& !B v) ⟨v2,hv2,by rw [a2,b2]; rfl⟩;have i1:=ih (fun v=>A v&&B v) (by omega) ⟨v1,hv1,by rw [a1,b1]; rfl⟩;have i2:=ih (fun v=>A v&& !B v) (by omega) ⟨v2,hv2,by rw [a2,b2]; rfl⟩;have e:inE E g A=inE E g (fun v=>A v&&B v)+inE E g fun v=>A v&& !B v:=by
     unfold inE;rw [<-A06];refine A0g fun f hf=> ?_;have:=h3 f hf;show (if A (g (2*f))=true∧A (g (2*f+1))=true then (1:Int) else 0)=(if (A (g (2*f))&&B (g (2*f)))=true∧(A (g (2*f+1))&&B (g (2*f+1)))=true then 1 else 0)+(if (A (g (2*f))&& !B (g (2*f)))=true∧(A (g (2*f+1))&& !B (g (2*f+1)))=true then 1 else 0);by_cases hx:A (g (2*f))=true
     ·by_cases hy:A (g (2*f+1))=true
      ·rw [this hx hy,hx,hy]; cases B (g (2*f+1))<;>decide
      ·have hy:A (g (2*f+1))=false:=by simpa using hy
       rw [hx,hy]; simp
     ·have hx:A (g (2*f))=false:=by simpa using hx
      rw [hx]; simp
    omega
 intro A hA;exact key (B2c n A).toNat A (Int.self_le_toNat _) hA
def C5L (E:Nat) (g c:Nat->Nat) (t:Nat->Bool) (v:Nat):Int:=sumR (fun e=>if t e=false∧g (c e)=v then 1 else 0) E
def C0B {c:Nat->Nat} (hc: ∀e,e<E->c e<2*E) (hg: ∀x,x<2*E->g x<n) (A:Nat->Bool):sumR (fun v=>if A v=true then C5L E g c t v else 0) n=sumR (fun e=>if t e=false∧A (g (c e))=true then 1 else 0) E:=by
 unfold C5L;have e1:sumR (fun v=>if A v=true then sumR (fun e=>if t e=false∧g (c e)=v then 1 else 0) E else 0) n=sumR (fun v=>sumR (fun e=>if A v=true then (if t e=false∧g (c e)=v then 1 else 0) else 0) E) n:=A0g fun v _=>by
  split
  ·rfl
  ·rw [A0F fun _ _=>rfl]
 rw [e1,A3q];refine A0g fun e he=> ?_;rw [A0g (g:=fun v=>if v=g (c e) then (if t e=false∧A (g (c e))=true then 1 else 0) else 0) fun v _=> ?_,A0O _ _ (hg _ (hc e he))];by_cases h:v=g (c e)
 ·subst h; rw [if_pos rfl];cases t e<;>cases A (g (c e))<;>simp
 ·rw [if_neg h]; split
  ·exact if_neg fun q=>h q.2.symm
  ·rfl
def C5v {c:Nat->Nat} (hc: ∀e,e<E->c e=2*e∨c e=2*e+1) (hg: ∀x,x<2*E->g x<n) (hT:STree E n g t):BrkD E n g (C5L E g c t):=by
 have hc2: ∀e,e<E->c e<2*E:=fun e he=>by rcases hc e he with q | q<;>omega
 refine ⟨?_,fun A hA=> ?_⟩
 ·have:=C0B (t:=t) hc2 hg fun _=>true;have e:sumR (fun v=>if (fun _=>true) v=true then C5L E g c t v else 0) n=sumR (C5L E g c t) n:=A0g fun v _=>if_pos rfl;rw [e] at this;rw [this,A0g (g:=fun e=>1-if t e=true then 1 else 0) fun e _=>by cases t e<;>rfl,A1L,A1Z,hT.tot]; omega
 ·rw [C0B hc2 hg];have h1:=hT.few A hA;have h2:sumR (fun e=>if A (g (2*e))=true∧A (g (2*e+1))=true then 1 else 0) E-sumR (fun e=>if t e=true∧A (g (2*e))=true∧A (g (2*e+1))=true then 1 else 0) E≤sumR (fun e=>if t e=false∧A (g (c e))=true then 1 else 0) E:=by
   rw [<-A1L];refine A3J fun e he=> ?_;rcases hc e he with q | q<;>rw [q]<;>cases t e<;>cases A (g (2*e))<;>cases A (g (2*e+1))<;>decide
  omega
end
def B3s (n q:Nat) (es:List E) (d s:List Int) {m:Nat} (hm:4≤m):A1y m [.box [.int .i64 (n:Int),.slice (A0f es) .none],.ro [.int .i64 (n:Int),.slice (A0f es)],.box (iC d),.box (iC s),.roC [.tree (.int .i64 (n:Int)),.tree (.slice (A0f es)),.tree (.int .i64 (q:Int)),.ref 2 1 0 n n,.ref 3 1 0 n n,.tree (.int .i64 0)]]:=by
 have hg:blkIn m (.box [.int .i64 (n:Int),.slice (A0f es) .none]):=by intro c hc; simp only [Qw,Qv,or_false] at hc; rcases hc with rfl | rfl<;>exact Qv4
 exact A0l hg (A0l Qv4 (A0l A1k (A0l A1k (A0l (A0H hm) (A0s _)))))
def B3t (v:Nat) (Q:List Nat):A0p (zI (v::Q))=[.int .i64 (v:Int)]::A0p (zI Q):=rfl
def B1O (n q:Nat) (es:List E) (d s:List Int) (h1:1≤n) (h12:n≤12) (hq:q<n) (hd:d.length=n) (hs:s.length=n) (hl:es.length≤40) (hm: ∀e,e∈es->(0≤e.a∧e.a<n)∧(0≤e.b∧e.b<n)∧0≤e.m∧e.m≤50) (B:List Int) (pB:Nat) (hB:DEnd es (A7Z n q,[q],0) B pB) (hBl:B.length=n):
  ACallH Tryz.prog 158 [.box [.int .i64 (n:Int),.slice (A0f es) .none],.ro [.int .i64 (n:Int),.slice (A0f es)],.box (iC d),.box (iC s),.roC [.tree (.int .i64 (n:Int)),.tree (.slice (A0f es)),.tree (.int .i64 (q:Int)),.ref 2 1 0 n n,.ref 3 1 0 n n,.tree (.int .i64 0)]] [.c (.ptr 4 0)] (([.box [.int .i64 (n:Int),.slice (A0f es) .none],.ro [.int .i64 (n:Int),.slice (A0f es)],.box (iC d),.box (iC s),.roC [.tree (.int .i64 (n:Int)),.tree (.slice (A0f es)),.tree (.int .i64 (q:Int)),.ref 2 1 0 n n,.ref 3 1 0 n n,.tree (.int .i64 0)]]++[.box (iC B)])++[.box [.ref 5 1 0 n n],.box [.slice [] (.tail 8 pB)],.chain pB 1]) (.c (.ref 5 1 0 n n)):=by
 have hlk:=fun H v h4=>B9E (H:=H) n q es v h4;have hI:=fun (v:Nat) (hv:v<n)=>B2L n es v (by omega) (fun e he=>by have:=hm e he; omega) (by omega);have hkb: ∀(v:Nat) x,x∈lnkL es v->0≤x.1∧x.1<n:=fun v x hx=>by
  obtain ⟨e,he,e1,_,e2⟩:=A7z hx;have:=hm e he;rcases e2 with ⟨_,e2⟩ | ⟨_,e2⟩<;>(rw [e2]; omega)
 have hqI:(q:Int)<(n:Int):=by omega
 have hRp:=C0a n (by omega) [.box [.int .i64 (n:Int),.slice (A0f es) .none],.ro [.int .i64 (n:Int),.slice (A0f es)],.box (iC d),.box (iC s),.roC [.tree (.int .i64 (n:Int)),.tree (.slice (A0f es)),.tree (.int .i64 (q:Int)),.ref 2 1 0 n n,.ref 3 1 0 n n,.tree (.int .i64 0)]] (fun b hb=>B3s n q es d s (m:=6) (by decide) b hb);have hdn:iC d≠[]:=B9D (by intro e; rw [e] at hd; simp at hd; omega);have hsn:iC s≠[]:=B9D (by intro e; rw [e] at hs; simp at hs; omega);have hne: ∀{x:List Int},x.length=n->iC x≠[]:=fun {x} hx=>B9D (by intro e; rw [e] at hx; simp at hx; omega);have hrl:(List.replicate n (-1):List Int).length=n:=by simp
 have hr0:=B0z (List.replicate n (-1)) q 0;have hr0':(iC (List.replicate n (-1))).set q (.int .i64 0)=iC (A7Z n q):=hr0;have hw0:=B5U (es:=es) hq;simp only [List.cons_append,List.nil_append] at hRp ⊢;refine ACallH.of_body Tryz.func158 rfl (by kernel_rfl) ?_;simp only [entry,Tryz.ntmps158,List.length_cons,List.length_nil,Nat.reduceAdd,Nat.reduceSub,List.replicate_succ,List.replicate_zero,List.cons_append,List.nil_append];refine zJc Qv6 (zc @hqI (zc @hr0' (zc @hrl (zc @A1N (zc @XX Qv6))))) Qv6 (zc hRp Qv6) Qv6 ?_;refine AWp.weak (Weak.tailB 7 0 1 rfl rfl (by simp)) ?_;simp only [List.set_cons_succ,List.set_cons_zero,List.length_cons,List.length_nil,Xv,Nat.reduceAdd,List.cons_append,List.nil_append];refine AWp.loopS (α:=BS3) 56 (fun w=>[(0,.c (.ptr 4 0)),(3,.c (.ptr 6 0)),(4,.c (.ptr 7 0))]) (fun w=>[.box [.int .i64 (n:Int),.slice (A0f es) .none],.ro [.int .i64 (n:Int),.slice (A0f es)],.box (iC d),.box (iC s),.roC [.tree (.int .i64 (n:Int)),.tree (.slice (A0f es)),.tree (.int .i64 (q:Int)),.ref 2 1 0 n n,.ref 3 1 0 n n,.tree (.int .i64 0)],.box (iC w.1),.box [.ref 5 1 0 n n],.box [.slice (A0p (zI w.2.1)) (.tail 8 w.2.2)],.chain w.2.2 1]) (fun w=>DEnd es w B pB∧BFq es n q w.1 w.2.1∧2*cntNeg w.1+w.2.1.length≤30) (fun w=>2*cntNeg w.1+w.2.1.length) ((A7Z n q,[q],0)) (hk:=Weak.headL 9 56 [0,3,4] (zV3 @A1k @A0N @A0H)) (h0:=?_) (round:=fun w hI=>?_)
 ·refine ⟨hB,hw0,?_⟩;have:=hw0.bnd q hq;have:=hw0.q0;show 2*cntNeg (A7Z n q)+1≤30;omega
 ·obtain ⟨o,Q,p⟩:=w;obtain ⟨hE,hF,hQb⟩:=hI;simp only at hE hF hQb ⊢;cases Q with
  | nil=>
   cases hE;have e0:(A0p (zI ([]:List Nat))).length=0:=rfl;have e1:A0p (zI ([]:List Nat))=[]:=rfl;refine zR (zc @e0 (zc @e1 Qv6)) Qv6 Qv6 ?_;simp [A4O,A2c,A0v,A2b,Tryz.results158]
  | cons v Q=>
   have hP:=hF.pop;have hvn:=hP.vv.1;have hvI:(v:Int)<(n:Int):=by omega
   cases hE with
   | go hE=>
   have hall:=PBq.all (s:=(o,Q,p)) (hkb v) hP;have hcn:=PBq.cnt (s:=(o,Q,p)) (hkb v) hP;have hIk:=hI v hvn;have hkbv:=hkb v;have el:(0:Int)<((Q.length+1:Nat):Int):=by omega
   have hneJ: ∀l,iC (List.foldl (stepD v) (o,Q,p) l).1≠[]:=fun l=>hne ((B3l v l (o,Q,p)).trans hF.len);rw [B3t];have hQl:=hF.len;refine zM (zc Qv6 (prt 6 1)) (zc @el (zc @A0e (zc @A3C Qv6))) Qv6 Qv6 Qv6 (ed fun hp hpc=>?_);simp only [Zw,ZY];refine AReg.step rfl rfl (A7V (k:=1) (i:=8) (p:=p) (rows:=[.int .i64 (v:Int)]::A0p (zI Q)) (l:=1) _ _ _ rfl 3 (by simp only [ty]) (by simp only [ty]) (.inr rfl) rfl (fun r hr=>by rcases Qw.1 hr with rfl | hr; exact rfl; exact A1v hr) rfl (by decide) (by rw [List.length_cons]; omega)) ?_;simp only [A1i,List.set_cons_succ,List.set_cons_zero,Int.toNat_one,Zw,ZY];refine AReg.rest (fun K hK=> ?_);refine zM Qv6 (zc C78 Qv6) Qv6 (zc hlk Qv6) Qv6 (ed fun hp hpc=>?_);refine AWp.weak (Weak.head (m:=10) (by omega) ((fun t f=>[t,f,f,t,t,t,f,f,f,f,f,f,f,f,f,f,f,f,f,f,f,f,f,f,f,f,f,f,f,f,f,f,f,f,f,t,f,f,f,f,f,f,f,f,f,f,f,f,f,f,f,f,f,f,f,f]) true false) (by first | rfl | simp [mask]) (by first | rfl | simp) (by (repeat' (first | exact A0m _ | refine A0k ?_ ?_ | refine A0h ?_ ?_ | exact A0i _ | exact Qv4 | (show _<_; omega) | (intro c hc; cases hc; done) | (intro c hc; simp only [Qw,Qv,or_false] at hc; subst hc; first | exact Qv4 | (show _<_; omega)) | (intro c hc; simp only [Qw,Qv,or_false] at hc; rcases hc with rfl | rfl<;>first | exact Qv4 | (show _<_; omega))))) (by (repeat' (first | exact A0m _ | exact A0s _ | exact A0i _ | refine Qv5 ?_ ?_ | refine A0k ?_ ?_ | refine A0l ?_ ?_ | refine A0h ?_ ?_ | exact Qv4 | exact A1k | exact A0N | exact A0H (by omega) | (show _<_; omega) | exact A0r (fun _=>Qv4) | (intro c hc; cases hc; done) | (intro c hc; simp only [Qw,Qv,or_false] at hc; subst hc; first | exact Qv4 | exact A1k | exact A0N | exact A0H (by omega) | (show _<_; omega)) | (intro c hc; simp only [Qw,Qv,or_false] at hc; rcases hc with rfl | rfl<;>first | exact Qv4 | exact A1k | exact A0N | exact A0H (by omega) | (show _<_; omega)))))) (AWp.rangeFunc (fun j H=>H=[.box [.int .i64 (n:Int),.slice (A0f es) .none],.ro [.int .i64 (n:Int),.slice (A0f es)],.box (iC d),.box (iC s),.roC [.tree (.int .i64 (n:Int)),.tree (.slice (A0f es)),.tree (.int .i64 (q:Int)),.ref 2 1 0 n n,.ref 3 1 0 n n,.tree (.int .i64 0)],.box (iC (((lnkL es v).take j).foldl (stepD v) (o,Q,p)).1),.box [.ref 5 1 0 n n],.box [.slice (A0p (zI (((lnkL es v).take j).foldl (stepD v) (o,Q,p)).2.1)) (.tail 8 (((lnkL es v).take j).foldl (stepD v) (o,Q,p)).2.2)],.chain (((lnkL es v).take j).foldl (stepD v) (o,Q,p)).2.2 1,.box [.int .i64 (v:Int)]]∧(True)) (fun _ _=>False) 10 rfl (hIk) (B2V rfl) (by omega) (by (repeat' (first | exact A0m _ | refine A0k ?_ ?_ | refine A0h ?_ ?_ | exact A0i _ | exact Qv4 | (show _<_; omega) | (intro c hc; cases hc; done) | (intro c hc; simp only [Qw,Qv,or_false] at hc; subst hc; first | exact Qv4 | (show _<_; omega)) | (intro c hc; simp only [Qw,Qv,or_false] at hc; rcases hc with rfl | rfl<;>first | exact Qv4 | (show _<_; omega))))) (by rintro _ _ ⟨rfl,-⟩; simp [hdn,hsn,hneJ]) (fun _ _ h=>h.elim) ?_ (fun l j ts H hts hI=> ?_) (fun H hI=> ?_) (fun e H h=>h.elim))
   ·exact ⟨rfl,trivial⟩
   ·obtain ⟨rfl,-⟩:=hI;obtain ⟨x,hx,rfl⟩:=A7q hts;have hj:j<(lnkL es v).length:=(Qx.1 hx).1;have hxb:=hkbv x (Qy hx);have hnx:=B7s v (o,Q,p) hx;have hPj:=hall j (by omega);have hcj:=hcn j (by omega);rw [List.length_cons] at hQb;have hlj:=hPj.len;have hbj:=hPj.bnd v hvn;have hcn0:=hPj.vv.2;have hqm:=hPj.qm;generalize ((lnkL es v).take j).foldl (stepD v) (o,Q,p)=sj at*;generalize hnj:((lnkL es v).take (j+1)).foldl (stepD v) (o,Q,p)=sj1 at*;obtain ⟨oj,Qj,pj⟩:=sj;obtain ⟨u,m⟩:=x;obtain ⟨u1,u2⟩:=hxb;obtain ⟨z,rfl⟩:=XV u1;have hzI:(z:Int)<(n:Int):=u2;unfold stepD at hnx;simp only [Int.toNat_natCast] at hnx hlj hbj hcj hcn0 ⊢;have g1:=A64 (A13 (d:=oj) (i:=z) (by omega));have g2:=A64 (A13 (d:=oj) (i:=v) (by omega));have hst:=B0z oj z (oj.getD v 0+1);generalize oj.getD z 0=oz at*;generalize oj.getD v 0=ov at*;simp only [mask,A43,List.zip_cons_cons,Jk,List.zip_nil_left,List.foldl_cons,List.foldl_nil,List.set_cons_succ,List.set_cons_zero,ofT,A3u,A02,XQ,ZX,ofT,A3u,toT,A0w,A0a,A0n,A0x,A3v,tG,A0E,A0q,B06];by_cases hneg:oz<0
    ·rw [if_pos hneg] at hnx;have hzs:=B43 Qj z;have hzl:=A3C Qj;refine zRc (zc @hzI (zc @hvI (zc @g1 (zc @g2 (zc @hst (zc @hneg (zc @A1N (zc @hlj (zc @A0e (zc @A2v (zc @hzs (zc @hzl (zc @XX Qv6))))))))))))) Qv6 @A1v ?_;refine ⟨⟨_,_⟩,Weak.head2 (m:=10) (by decide) ((fun t f=>[f,f,f,f,f,f,f,f,f,f,f,f,f,f,f,f,f,f,f,f,f,f,f,f,f,f,f,f,f,f,f,f,f,f,f,f,f,f,f,f,f,f,f,f,f,f,f,f,f,f,f,f,f,f,f,f]) true false) rfl rfl (zV3 @A1k @A0N @A0H),?_,?_⟩
     ·rw [hnj,hnx]; rfl
     ·trivial
    ·rw [if_neg hneg] at hnx;refine zR (zc @hzI (zc @g1 (zc @hneg (zc @A1N (zc @hlj (zc @XX Qv6)))))) Qv6 Qv6 ?_;refine ⟨⟨_,_⟩,Weak.head2 (m:=10) (by decide) ((fun t f=>[f,f,f,f,f,f,f,f,f,f,f,f,f,f,f,f,f,f,f,f,f,f,f,f,f,f,f,f,f,f,f,f,f,f,f,f,f,f,f,f,f,f,f,f,f,f,f,f,f,f,f,f,f,f,f,f]) true false) rfl rfl (zV3 @A1k @A0N @A0H),?_,?_⟩
     ·rw [hnj,hnx]; rfl
     ·trivial
   ·obtain ⟨rfl,-⟩:=hI;rw [A7p,Zy];have hd1:=hall _ (QQ _);have hc1:=hcn _ (QQ _);rw [Zy] at hd1 hc1;simp only [mask];refine zR Qv6 Qv6 Qv6 ?_;refine ⟨B7S es v (o,Q,p),Weak.headN 9 56 [0,3,4] (zV3 @A1k @A0N @A0H),?_,?_⟩
    ·refine ⟨hE,hd1.done,?_⟩;rw [List.length_cons] at hQb;show 2*cntNeg (B7S es v (o,Q,p)).1+(B7S es v (o,Q,p)).2.1.length≤30;have:2*cntNeg (B7S es v (o,Q,p)).1+(B7S es v (o,Q,p)).2.1.length≤2*cntNeg o+Q.length:=hc1;omega
    ·show 2*cntNeg (B7S es v (o,Q,p)).1+(B7S es v (o,Q,p)).2.1.length<2*cntNeg o+(v::Q).length;rw [List.length_cons];have:2*cntNeg (B7S es v (o,Q,p)).1+(B7S es v (o,Q,p)).2.1.length≤2*cntNeg o+Q.length:=hc1;omega
def B3u {r:R} {t:List Int} {k:Nat} {ts:List TVal} (h:(A9U r t)[k]? =some ts):k<2*(endsL r.es).length∧ts=[A0n (tourN r t k:Nat),A0n (gR (endsL r.es) (tourN r t k):Nat)]:=by
 have hk:=(Qx.1 h).1;rw [A6N] at hk;rw [B3n hk] at h;exact ⟨hk,(JX h).symm⟩
def B3v (r:R) (t:List Int):ACall Tryz.prog 53 [tR r,A0q t] (.t (.fn 99 [.rptr [.int .i64 r.n,.slice (A0f r.es),.slice (A0u r.ar)],.rptr [.slice (A0p t)]])):=by
 obtain ⟨n,es,ar⟩:=r;refine ACall.of_body Tryz.func53 rfl (by kernel_rfl) ?_;simp only [entry,Tryz.ntmps53,tR,A0q];refine zU ?_;refine zR Qv6 Qv6 Qv6 ?_;simp [A00,A0z,Blk.cells,ty,Tryz.results53,A0v,A0w,toT,A0d,A0b,A0c,A0a]
def C0C (r:R) (t:List Int) (hs:RSm r) (htl:t.length<2^40):ACall Tryz.prog 12 [tR r,A0q t] (.tup [A0q (if B39 r t≠0 then [] else tourL r t (2*(endsL r.es).length)),A0n (B39 r t)]):=by
 have hg:=A9A r t hs htl;by_cases h0:B39 r t=0
 ·rw [if_neg (by omega),h0];rw [h0] at hg;have hT:=(B1I h0).1;have hw:=B3v r t;have hIt:=B5Y r t hs hT htl;have hinv:=fun k ts h=>B3u (r:=r) (t:=t) (k:=k) (ts:=ts) h;have hsu:=B7u r t;have hll:=C0u r t;have hil:=A6N r t;have hlen:(endsL r.es).length≤2000:=A1T (g:=r.g) hs.es hT.ok.c;have hz:A0p (tourL r t 0)=[]:=rfl;clear hT h0;generalize A9U r t=xs at*;generalize tourL r t=tl at*;generalize tourN r t=tn at*;obtain ⟨n,es,ar⟩:=r;simp only at*;generalize endsL es=L at*;refine ACall.of_body Tryz.func12 rfl (by kernel_rfl) ?_;simp only [entry,Tryz.ntmps12,tR];refine zU ?_;refine zR Qv6 (zc hg (zc hw Qv6)) Qv6 ?_;refine AWp.weak (Weak.openB 1 0 1 rfl rfl (by omega)) ?_;simp only [List.set_cons_succ,List.set_cons_zero,List.length_cons,List.length_nil,Xv,Nat.reduceAdd,List.cons_append,List.nil_append];refine AWp.weak (Weak.head (m:=3) (by omega) ((fun t f=>[f,t,t,f,f,f,f,t,f,f,f,f,f,f,f,f,f,t,f,f,f,f,f,f,f]) true false) (by first | rfl | simp [mask]) (by first | rfl | simp) (by (repeat' (first | exact A0m _ | refine A0k ?_ ?_ | refine A0h ?_ ?_ | exact A0i _ | exact Qv4 | (show _<_; omega) | (intro c hc; cases hc; done) | (intro c hc; simp only [Qw,Qv,or_false] at hc; subst hc; first | exact Qv4 | (show _<_; omega)) | (intro c hc; simp only [Qw,Qv,or_false] at hc; rcases hc with rfl | rfl<;>first | exact Qv4 | (show _<_; omega))))) (by (repeat' (first | exact A0m _ | exact A0s _ | exact A0i _ | refine Qv5 ?_ ?_ | refine A0k ?_ ?_ | refine A0l ?_ ?_ | refine A0h ?_ ?_ | exact Qv4 | (show _<_; omega) | exact A0r (fun _=>Qv4) | (intro c hc; cases hc; done) | (intro c hc; simp only [Qw,Qv,or_false] at hc; subst hc; first | exact Qv4 | (show _<_; omega)) | (intro c hc; simp only [Qw,Qv,or_false] at hc; rcases hc with rfl | rfl<;>first | exact Qv4 | (show _<_; omega)))))) (AWp.rangeFunc (fun k H=>H=[.box [.int .i64 n,.slice (A0f es) .none,.slice (A0u ar) .none],.box [.slice (A0p (tl k)) (.chain 2)],.chain k 1]∧(True)) (fun _ _=>False) 3 rfl (hIt) (fun k ts hts=>by obtain ⟨_,rfl⟩:=hinv _ _ hts; rfl) (by omega) (by (repeat' (first | exact A0m _ | refine A0k ?_ ?_ | refine A0h ?_ ?_ | exact A0i _ | exact Qv4 | (show _<_; omega) | (intro c hc; cases hc; done) | (intro c hc; simp only [Qw,Qv,or_false] at hc; subst hc; first | exact Qv4 | (show _<_; omega)) | (intro c hc; simp only [Qw,Qv,or_false] at hc; rcases hc with rfl | rfl<;>first | exact Qv4 | (show _<_; omega))))) (by rintro _ _ ⟨rfl,-⟩; simp) (fun _ _ h=>h.elim) ?_ (fun l k ts H hts hI=> ?_) (fun H hI=> ?_) (fun e H h=>h.elim))
  ·exact ⟨by rw [hz]; rfl,trivial⟩
  ·obtain ⟨rfl,-⟩:=hI;obtain ⟨hk,rfl⟩:=hinv _ _ hts;have hs1:=hsu k;have hl1:=hll k;generalize hT2:tl (k+1)=T2 at*;generalize tl k=T at*;simp only [mask,A43,List.zip_cons_cons,Jk,List.zip_nil_left,List.foldl_cons,List.foldl_nil,List.set_cons_succ,List.set_cons_zero,ofT,A3u,A02,XQ,ZX,ofT,A3u,toT,A0w,A0a,A0n,A0x,A3v,tG,A0E,A0q,A0S];refine zRc (zc @A0e (zc @A2v (zc @hl1 Qv6))) Qv6 @A1v ?_;rw [<-hs1];refine ⟨⟨_,_⟩,Weak.head2 (m:=3) (by decide) ((fun t f=>[f,f,f,f,f,f,f,f,f,f,f,f,f,f,f,f,f,f,f,f,f,f,f,f,f]) true false) rfl rfl zW,?_,?_⟩
   ·rw [hT2]; rfl
   ·trivial
  ·obtain ⟨rfl,-⟩:=hI;rw [hil];simp only [mask];refine zR Qv6 Qv6 Qv6 ?_;simp [A00,A0z,Blk.cells,ty,Tryz.results12,A0v,A0w,toT,A0d,A0b,A0c,A0a,A0n,A0q]
 ·rw [if_pos h0];generalize B39 r t=e at*;obtain ⟨n,es,ar⟩:=r;refine ACall.of_body Tryz.func12 rfl (by kernel_rfl) ?_;simp only [entry,Tryz.ntmps12,tR];refine zU ?_;refine zR (zc @h0 Qv6) (zc hg Qv6) Qv6 ?_;simp [A00,A0z,Blk.cells,ty,Tryz.results12,A0v,A0w,toT,A0d,A0b,A0c,A0a,A0n,A0q,A0p]
def B6d (r:R) (t:List Int) (k:Nat):List Int:=B8R r.n.toNat (B7T (A4a t) (gR (endsL r.es)) (tourN r t) k)
def C3E (r:R) (t:List Int) (k:Nat):Bool:=C5J (A4a t) (tourN r t) k
def B1P (r:R) (t:List Int) (k:Nat):(B6d r t k).length=r.n.toNat:=A8l _ _
def A6P (r:R) (t:List Int) (k:Nat) {v:Nat} (hv:v<r.n.toNat):(B6d r t k)[v]? =some (B7T (A4a t) (gR (endsL r.es)) (tourN r t) k v):=B1y _ hv
def C0D (r:R) (t:List Int):B6d r t 0=List.replicate r.n.toNat 0:=by
 refine Zx fun v=> ?_;by_cases hv:v<r.n.toNat
 ·rw [A6P r t 0 hv,Qx5,if_pos hv]; rfl
 ·rw [Xx (by rw [B1P]; omega),Xx (by simp; omega)]
def C0E (r:R) (t:List Int) (k:Nat) (h:C3E r t k=false):B6d r t (k+1)=B6d r t k:=by
 unfold B6d;refine B01 fun v _=> ?_;unfold B7T;rw [sumR,if_neg (fun q=>by have:=q.1; unfold C3E at h; rw [h] at this; cases this)]; omega
def C2Y (r:R) (t:List Int) (k:Nat) (h:C3E r t k=true) (hv:gR (endsL r.es) (tourN r t k)<r.n.toNat):(B6d r t k).set (gR (endsL r.es) (tourN r t k)) (B7T (A4a t) (gR (endsL r.es)) (tourN r t) k (gR (endsL r.es) (tourN r t k))+1)=B6d r t (k+1):=by
 unfold B6d;rw [C1U _ _ hv];refine B01 fun v _=> ?_;unfold C3E at h;by_cases e:v=gR (endsL r.es) (tourN r t k)
 ·subst e;rw [if_pos rfl];unfold B7T;rw [sumR,if_pos ⟨h,rfl⟩]
 ·rw [if_neg e];unfold B7T;rw [sumR,if_neg (fun q=>e q.2.symm)]; omega
def B1Q (b:Nat->Bool) (g tn:Nat->Nat) (v:Nat): ∀k:Nat,0≤B7T b g tn k v∧B7T b g tn k v≤k
 | 0=>⟨WW _,WW _⟩
 | k+1=>by
  have:=B1Q b g tn v k;unfold B7T at*;rw [sumR];split<;>omega
def C0F {r:R} {t:List Int} {k x:Nat}:((x:Nat):Int)∈tourL r t k↔x∈(List.range k).map (tourN r t):=by
 unfold tourL;rw [QJ,QJ];constructor
 ·rintro ⟨i,hi,e⟩; exact ⟨i,hi,by omega⟩
 ·rintro ⟨i,hi,rfl⟩; exact ⟨i,hi,rfl⟩
def A3K (tn:Nat->Nat):Nat->List Nat
 | 0=>[]
 | k+1=>if tn k / 2∈A3K tn k then A3K tn k else A3K tn k++[tn k / 2]
def A9C (tn:Nat->Nat) {x:Nat}: ∀k:Nat,x∈A3K tn k↔ ∃i,i<k∧tn i / 2=x
 | 0=>by simp [A3K]
 | k+1=>by
  have ih:=A9C tn (x:=x) k;rw [A3K];split
  ·rename_i h;rw [ih];constructor
   ·rintro ⟨i,hi,e⟩; exact ⟨i,by omega,e⟩
   ·rintro ⟨i,hi,e⟩;by_cases hik:i=k
    ·subst hik; rw [<-e]; exact (A9C tn _).1 h
    ·exact ⟨i,by omega,e⟩
  ·rw [XY,ih,Zq];constructor
   ·rintro (⟨i,hi,e⟩ | e)
    ·exact ⟨i,by omega,e⟩
    ·exact ⟨k,by omega,e.symm⟩
   ·rintro ⟨i,hi,e⟩;by_cases hik:i=k
    ·subst hik; exact .inr e.symm
    ·exact .inl ⟨i,by omega,e⟩
def C2Z {r:R} {t:List Int} (h:TourS r t) {k:Nat} (hk:k<2*(endsL r.es).length):C3E r t k=(!decide (((tourN r t k / 2:Nat):Int)∈t)&&decide (tourN r t k / 2∉A3K (tourN r t) k)):=by
 unfold C3E C5J A4a;congr 1;rw [decide_eq_decide,A9C];refine not_congr ?_;rw [QJ];constructor
 ·rintro ⟨i,hi,e⟩;exact ⟨i,Xy.1 hi,by rw [e,C38]⟩
 ·rintro ⟨i,hi,e⟩;refine ⟨i,Xy.2 hi,?_⟩;rcases A2V e with q | q
  ·exact absurd (C0F.2 (QJ.2 ⟨i,Xy.2 hi,q⟩)) (h.new k hk)
  ·exact q
def C65 {l:List Nat} {x:Nat} (h:x∈l) (z:MV):A7b (mB l) (.int (x:Int)) z= .c (.bool true):=by
 have hi: ∃i,mIdx (mB l) (.int (x:Int))=some i:=by
  cases hx:mIdx (mB l) (.int (x:Int)) with
  | some i=>exact ⟨i,rfl⟩
  | none=>
   unfold mIdx at hx;rw [List.findIdx?_eq_none_iff] at hx;have:=hx (.int (x:Int),.c (.bool true)) (QJ.2 ⟨x,h,rfl⟩);simp at this
 obtain ⟨i,hi⟩:=hi;obtain ⟨v,hv⟩:=B2l hi;have hm:=Qy hv;obtain ⟨y,_,e⟩:=QJ.1 hm;injection e with e1 e2;simp [A7b,hi,hv,<-e2]
def A2C (r:R) (t:List Int) (hs:RSm r) (h:RTree r t) (htl:t.length<2^40):ACall Tryz.prog 56 [tR r,A0q t] (A0q (B6d r t (2*(endsL r.es).length))):=by
 have hr:=h.ok;have hw:=B3v r t;have hIt:=B5Y r t hs h htl;have hinv:=fun k ts h=>B3u (r:=r) (t:=t) (k:=k) (ts:=ts) h;have hil:=A6N r t;have hlen:(endsL r.es).length≤2000:=A1T (g:=r.g) hs.es hr.c;have h12:=(A0j.1 hr.c).1;have hdl:=B1P r t;have hdg:=fun k v hv=>A6P r t k (v:=v) hv;have hdz:=C0D r t;have hsk:=C0E r t;have hpu:=C2Y r t;have hrg:=fun v k=>B1Q (A4a t) (gR (endsL r.es)) (tourN r t) v k;have hgl:=(A2K hr).lt;have hlt: ∀k,k<2*(endsL r.es).length->tourN r t k<2*(endsL r.es).length:=fun k hk=>(h.tourS (by omega)).lt k hk;have hcn: ∀k,k<2*(endsL r.es).length->C3E r t k=(!decide (((tourN r t k / 2:Nat):Int)∈t)&&decide (tourN r t k / 2∉A3K (tourN r t) k)):=fun k hk=>C2Z (h.tourS (by omega)) hk;obtain ⟨nN,hnN⟩:=XV (show 0≤r.n by show 0≤r.g.n; omega);have h12':1≤nN∧nN≤12:=by have:r.g.n=r.n:=rfl; omega
 clear h hr;generalize A9U r t=xs at*;generalize B6d r t=dl at*;generalize C3E r t=cn at*;generalize tourN r t=tn at*;obtain ⟨n,es,ar⟩:=r;simp only at*;subst hnN;generalize endsL es=L at*;simp only [Int.toNat_natCast] at*;generalize B7T (A4a t) (gR L) tn=dT at*;have hne: ∀k,iC (dl k)≠[]:=fun k=>by
  intro e;have h1:(iC (dl k)).length=0:=by rw [e]; rfl
  rw [A1N,hdl k] at h1; omega
 have hnI:(0:Int)≤(nN:Int):=by omega
 refine ACall.of_body Tryz.func56 rfl (by kernel_rfl) ?_;simp only [entry,Tryz.ntmps56,tR,A0q];refine zU ?_;refine zJ (stop 2) (zc @A2h (zc @XX Qv6)) Qv6 Qv6 Qv6 ?_;rw [<-hdz];refine zM (zc Qv6 (prt 2 1)) Qv6 Qv6 Qv6 Qv6 (ed fun hp hpc=>?_);simp only [Zw,ZY];refine AReg.allocR (z:= .map none) rfl rfl rfl (by simp only [ty]) rfl ?_;simp only [A1i,List.set_cons_succ,List.set_cons_zero,List.length_cons,List.length_nil,Nat.reduceAdd,List.cons_append,List.nil_append];refine AReg.rest (fun K hK=> ?_)
 repeat' (first|((first|(refine zT ?_;intro K' hK')|(refine zG ?_ ?_<;>(try refine zH ?_)<;>intro hguard<;>(try exact zX)<;>try intro K' hK'))<;>((try simp+contextual only [go_sem,tR,A0q,ofT,A3u,A02,XQ,ZX]);(repeat' first|(with_reducible refine hK' _ _ ?_;clear hK' K')|(with_reducible refine zK hw ?_;try simp+contextual only [go_sem,tR,A0q,ofT,A3u,A02,XQ,ZX])|exact zY|with_reducible refine Qv5 ?_ ?_|(with_reducible intro hpath;try exact zP)|(refine hK' _ _ ?_;clear hK' K')|fail);try refine zS ?_))|(refine zE ?_;refine hK _ _ ?_;clear hK K)|(refine zN ?_;try refine zS ?_)|refine zA ?_|(refine zB ?_;intro K hK)|(refine zC ?_ ?_<;>(try refine zH ?_)<;>intro hcond<;>try exact zX)|fail)
 refine AWp.weak (Weak.head (m:=6) (by omega) ((fun t f=>[f,f,t,t,f,t,t,f,f,f,f,f,f,f,f,f,f,t,f,f,f,f,f,f,f,f,f,f,f,f,f,f,f,f,f,f,f,f,f]) true false) (by first | rfl | simp [mask]) (by first | rfl | simp) (by (repeat' (first | exact A0m _ | refine A0k ?_ ?_ | refine A0h ?_ ?_ | exact A0i _ | exact Qv4 | (show _<_; omega) | (intro c hc; cases hc; done) | (intro c hc; simp only [Qw,Qv,or_false] at hc; subst hc; first | exact Qv4 | (show _<_; omega)) | (intro c hc; simp only [Qw,Qv,or_false] at hc; rcases hc with rfl | rfl<;>first | exact Qv4 | (show _<_; omega))))) (by (repeat' (first | exact A0m _ | exact A0s _ | exact A0i _ | refine Qv5 ?_ ?_ | refine A0k ?_ ?_ | refine A0l ?_ ?_ | refine A0h ?_ ?_ | exact Qv4 | (show _<_; omega) | exact A0r (fun _=>Qv4) | (intro c hc; cases hc; done) | (intro c hc; simp only [Qw,Qv,or_false] at hc; subst hc; first | exact Qv4 | (show _<_; omega)) | (intro c hc; simp only [Qw,Qv,or_false] at hc; rcases hc with rfl | rfl<;>first | exact Qv4 | (show _<_; omega)))))) (AWp.rangeFunc (fun k H=>H=[.box [.int .i64 (nN:Int),.slice (A0f es) .none,.slice (A0u ar) .none],.box [.slice (A0p t) .none],.box (iC (dl k)),.box [.ref 2 1 0 nN nN],.map (mB (A3K tn k)),.box [.map 4]]∧(True)) (fun _ _=>False) 6 rfl (hIt) (fun k ts hts=>by obtain ⟨_,rfl⟩:=hinv _ _ hts; rfl) (by omega) (by (repeat' (first | exact A0m _ | refine A0k ?_ ?_ | refine A0h ?_ ?_ | exact A0i _ | exact Qv4 | (show _<_; omega) | (intro c hc; cases hc; done) | (intro c hc; simp only [Qw,Qv,or_false] at hc; subst hc; first | exact Qv4 | (show _<_; omega)) | (intro c hc; simp only [Qw,Qv,or_false] at hc; rcases hc with rfl | rfl<;>first | exact Qv4 | (show _<_; omega))))) (by rintro _ _ ⟨rfl,-⟩; simp [hne]) (fun _ _ h=>h.elim) ?_ (fun l k ts H hts hI=> ?_) (fun H hI=> ?_) (fun e H h=>h.elim))
 ·exact ⟨rfl,trivial⟩
 ·obtain ⟨rfl,-⟩:=hI;obtain ⟨hkl,rfl⟩:=hinv _ _ hts;have hx:=hlt k hkl;have hv:=hgl _ hx;have c2:=A5U t ((tn k / 2:Nat):Int) htl;have hd:(((tn k:Nat):Int)).tdiv 2=((tn k / 2:Nat):Int):=rfl;have hc:=hcn k hkl;have hsn:A3K tn (k+1)=if tn k / 2∈A3K tn k then A3K tn k else A3K tn k++[tn k / 2]:=rfl
  have hl0:=hdl k;have hg0:=hdg k _ hv;have hr0:=hrg (gR L (tn k)) k;have hs0:=hsk k;have hp0:=hpu k;have hvI:((gR L (tn k):Nat):Int)<(nN:Int):=by omega
  clear hsk hpu hdl hdg hrg hcn hIt;by_cases hseen:tn k / 2∈A3K tn k
  ·rw [if_pos hseen] at hsn;have hval:=C65 hseen (.c (.bool false));have hcf:cn k=false:=by rw [hc]; simp [hseen]
   have hdd:=hs0 hcf;generalize hS2:A3K tn (k+1)=S2 at*;generalize A3K tn k=S at*;generalize hD2:dl (k+1)=D2 at*;generalize dl k=D at*;generalize tn k=x at*;subst hsn hdd;simp only [mask,A43,List.zip_cons_cons,Jk,List.zip_nil_left,List.foldl_cons,List.foldl_nil,List.set_cons_succ,List.set_cons_zero,ofT,A3u,A02,XQ,ZX,ofT,A3u,toT,A0w,A0a,A0n,A0x,A3v,tG,A0E,A0q,A0S];refine zM Qv6 (zc @hd (zc @hval Qv6)) Qv6 (zc (zc A7W C4R) Qv6) Qv6 (ed fun hp hpc=>?_);refine ⟨⟨_,_⟩,Weak.head2 (m:=6) (by decide) ((fun t f=>[f,f,f,f,f,f,f,f,f,f,f,f,f,f,f,f,f,f,f,f,f,f,f,f,f,f,f,f,f,f,f,f,f,f,f,f,f,f,f]) true false) rfl rfl zW,?_,?_⟩
   ·rw [hS2,hD2]; rfl
   ·trivial
  ·rw [if_neg hseen] at hsn;have hval:=C6z hseen (.c (.bool false));have hput:=C60 hseen;rw [<-hsn] at hput;by_cases hm:((tn k / 2:Nat):Int)∈t
   ·rw [decide_eq_true hm] at c2;have hcf:cn k=false:=by rw [hc,decide_eq_true hm]; simp
    have hdd:=hs0 hcf;generalize hS2:A3K tn (k+1)=S2 at*;generalize A3K tn k=S at*;generalize hD2:dl (k+1)=D2 at*;generalize dl k=D at*;generalize tn k=x at*;subst hdd;simp only [mask,A43,List.zip_cons_cons,Jk,List.zip_nil_left,List.foldl_cons,List.foldl_nil,List.set_cons_succ,List.set_cons_zero,ofT,A3u,A02,XQ,ZX,ofT,A3u,toT,A0w,A0a,A0n,A0x,A3v,tG,A0E,A0q,A0S];refine zM Qv6 (zc @hd (zc @hval (zc @hput Qv6))) (zc c2 Qv6) (zc (zc A7W C4R) Qv6) Qv6 (ed fun hp hpc=>?_);refine ⟨⟨_,_⟩,Weak.head2 (m:=6) (by decide) ((fun t f=>[f,f,f,f,f,f,f,f,f,f,f,f,f,f,f,f,f,f,f,f,f,f,f,f,f,f,f,f,f,f,f,f,f,f,f,f,f,f,f]) true false) rfl rfl zW,?_,?_⟩
    ·rw [hS2,hD2]; rfl
    ·trivial
   ·rw [decide_eq_false hm] at c2;have hct:cn k=true:=by rw [hc,decide_eq_false hm,decide_eq_true hseen]; rfl
    have hpp:=hp0 hct hv;have hi0:=A64 hg0;have hst:=B0z (dl k) (gR L (tn k)) (dT k (gR L (tn k))+1);rw [hpp] at hst;generalize hS2:A3K tn (k+1)=S2 at*;generalize A3K tn k=S at*;generalize hD2:dl (k+1)=D2 at*;generalize dT k (gR L (tn k))=c at*;generalize dl k=D at*;generalize gR L (tn k)=v at*;generalize tn k=x at*;simp only [mask,A43,List.zip_cons_cons,Jk,List.zip_nil_left,List.foldl_cons,List.foldl_nil,List.set_cons_succ,List.set_cons_zero,ofT,A3u,A02,XQ,ZX,ofT,A3u,toT,A0w,A0a,A0n,A0x,A3v,tG,A0E,A0q,A0S];refine zM Qv6 (zc @hd (zc @hval (zc @hput (zc @hi0 (zc @hst (zc @hl0 (zc @hvI (zc @A1N Qv6)))))))) (zc c2 Qv6) (zc (zc A7W C4R) Qv6) Qv6 (ed fun hp hpc=>?_);refine ⟨⟨_,_⟩,Weak.head2 (m:=6) (by decide) ((fun t f=>[f,f,f,f,f,f,f,f,f,f,f,f,f,f,f,f,f,f,f,f,f,f,f,f,f,f,f,f,f,f,f,f,f,f,f,f,f,f,f]) true false) rfl rfl zW,?_,?_⟩
    ·rw [hS2,hD2]; rfl
    ·trivial
 ·obtain ⟨rfl,-⟩:=hI;rw [hil];have hl1:=hdl (2*L.length);clear hsk hpu hdl hdg hrg hcn hIt hne;generalize dl (2*L.length)=d at*;generalize mB (A3K tn (2*L.length))=mm at*;have hr0:A0d [.box [.int .i64 (nN:Int),.slice (A0f es) .none,.slice (A0u ar) .none],.box [.slice (A0p t) .none],.box (iC d),.box [.ref 2 1 0 nN nN],.map mm,.box [.map 4]] (.ref 2 1 0 nN nN)=some (.slice (A0p d)):=B0K hl1 rfl;simp only [mask];refine zM trivial trivial trivial trivial trivial (ed fun hp hpc=>?_);simp [A00,A0z,Tryz.results56,A0v,A0w,toT,hr0,A0q]
section
variable {n:Nat} {es:List E}
def C66 (h:EsOk n es) {v:Nat} {x:Int×Int} (hx:x∈lnkL es v):x.1.toNat<n∧x.1.toNat≠v∧0≤x.1:=by
 obtain ⟨e,he,_,hne,hab⟩:=A7z hx;have:=h.rng e he;rcases hab with ⟨q1,q2⟩ | ⟨q1,q2⟩<;>omega
def C7S (R:List Bool):Nat->Bool:=fun v=>R.getD v false
def Led (n:Nat) (es:List E) (d0 d s:List Int):Prop:= ∀w,w<n->d.getD w 0=d0.getD w 0-lap n (mulE es) (fun u=>s.getD u 0) w
end
def C71 (far:List Int) (k:Int):List Bool:=far.map fun x=>decide (x<k)
section
variable {n:Nat} {es:List E}
structure LInv (n:Nat) (es:List E) (far d0:List Int) (k X:Int) (w:List Int×List Int):Prop where
 dl:w.1.length=n
 sl:w.2.length=n
 led:Led n es d0 w.1 w.2
 db:bndL X w.1
 sb:bndL X w.2
 sp: ∀v,0≤w.2.getD v 0
 don: ∀v,v<n->k<far.getD v 0->0≤w.1.getD v 0
def C76 (S:Nat->Bool):List E->Int
 | []=>0
 | e::es=>(if S e.a.toNat≠S e.b.toNat then e.m else 0)+C76 S es
def levF (es:List E) (far:List Int) (k:Nat):Int:=C76 (C7S (C71 far (k:Int))) es
def powF (z:Nat->Int) (X:Int):Nat->Int
 | 0=>X
 | k+1=>powF z (X+z (k+1)*X) k
end
def A6Q (l:List Int):Nat->Int
 | 0=>l.getD 0 0
 | k+1=>max (A6Q l k) (l.getD (k+1) 0)
def B6e (l:List Int): ∀k i,i≤k->l.getD i 0≤A6Q l k
 | 0,i,h=>by rw [show i=0 by omega]; exact WW _
 | k+1,i,h=>by
  unfold A6Q;by_cases e:i=k+1
  ·subst e; omega
  ·have:=B6e l k i (by omega); omega
def B6f (l:List Int): ∀k,∃i,i≤k∧A6Q l k=l.getD i 0
 | 0=>⟨0,QQ _,rfl⟩
 | k+1=>by
  obtain ⟨i,h1,h2⟩:=B6f l k;unfold A6Q;rcases Int.le_total (A6Q l k) (l.getD (k+1) 0) with h | h
  ·exact ⟨k+1,QQ _,by omega⟩
  ·exact ⟨i,by omega,by omega⟩
def C67 (l:List Int) (hne:l≠[]) (hl:l.length<2^40):ACall Tryz.prog 160 [A0q l] (A0n (A6Q l (l.length-1))):=by
 have hp:0<l.length:=Ww.2 hne;have e0:=Qq hp;have r0:=A0y e0;have d0:l.getD 0 0=l[0]:=by rw [Qz,e0]; rfl
 generalize l[0]=x0 at*;refine ACall.of_body Tryz.func160 rfl (by kernel_rfl) ?_;simp only [entry,Tryz.ntmps160,A0q];refine zU ?_;refine zR (zc @A0e (zc @r0 (zc @Int.toNat_zero Qv6))) Qv6 Qv6 ?_;have hx0:x0=A6Q l 0:=d0.symm;rw [hx0];refine AWp.loopS (α:=Nat) 25 (fun i=>[(0,.c (.slice (A0p l) .none)),(3,.c (.int .i64 (A6Q l i))),(4,.c (.int .i64 ((i:Int)+1)))]) (fun i=>[]) (fun i=>i<l.length) (fun i=>l.length-i) (0) (hk:=Weak.headL 0 25 [0,3,4] (zV3 @A1k @A0N @A0H)) (h0:=?_) (round:=fun i hI=>?_)
 ·exact hp
 ·by_cases hlt:i+1<l.length
  ·have hltI:(i:Int)+1<l.length:=by omega
   have e1:=Qq hlt;have r1:=A0y e1;have d1:l.getD (i+1) 0=l[i+1]:=by rw [Qz,e1]; rfl
   have hnx:A6Q l (i+1)=max (A6Q l i) (l.getD (i+1) 0):=rfl;rw [d1] at hnx;have ht:((i:Int)+1).toNat=i+1:=by omega
   generalize l[i+1]=y at*;generalize A6Q l i=m at*;refine zR (zc @hltI (zc @A0e (zc @r1 (zc @ht Qv6)))) Qv6 Qv6 ?_;refine ⟨i+1,Weak.headF 0 25 [0,3,4] (zc @hnx Qv6) (zV3 @A1k @A0N @A0H),?_,?_⟩
   ·omega
   ·omega
  ·have ei:A6Q l (l.length-1)=A6Q l i:=by congr 1; omega
   have hnl: ¬((i:Int)+1<l.length):=by omega
   rw [ei];refine zR (zc @hnl (zc @A0e Qv6)) Qv6 Qv6 ?_;simp [A00,A0z,Blk.cells,ty,Tryz.results160,A0v,A0w,toT,A0d,A0b,A0c,A0a,A0n]
def B3w (n q:Nat) (es:List E) (d s:List Int) (h1:1≤n) (h12:n≤12) (hq:q<n) (hd:d.length=n) (hs:s.length=n) (hl:es.length≤40) (hm: ∀e,e∈es->(0≤e.a∧e.a<n)∧(0≤e.b∧e.b<n)∧0≤e.m∧e.m≤50) (B:List Int) (pB:Nat) (hB:DEnd es (A7Z n q,[q],0) B pB) (hBl:B.length=n):
  ACallH Tryz.prog 158 [.box [.int .i64 (n:Int),.slice (A0f es) .none],.ro [.int .i64 (n:Int),.slice (A0f es)],.box (iC d),.box (iC s),.roC [.tree (.int .i64 (n:Int)),.tree (.slice (A0f es)),.tree (.int .i64 (q:Int)),.ref 2 1 0 n n,.ref 3 1 0 n n,.tree (.int .i64 0)]] [.c (.ptr 4 0)] [.box [.int .i64 (n:Int),.slice (A0f es) .none],.ro [.int .i64 (n:Int),.slice (A0f es)],.box (iC d),.box (iC s),.roC [.tree (.int .i64 (n:Int)),.tree (.slice (A0f es)),.tree (.int .i64 (q:Int)),.ref 2 1 0 n n,.ref 3 1 0 n n,.tree (.int .i64 0)]] (.c (.slice (A0p B) .none)):=
 ((B1O n q es d s h1 h12 hq hd hs hl hm B pB hB hBl).trim (by simp) (show 5<6 by decide) (fun b hb=>by
  rcases XY.1 hb with hb | hb
  ·exact B3s n q es d s (m:=6) (by decide) b hb
  ·rw [Zq] at hb; subst hb; exact A1k)).data (QQ _) (B3s n q es d s (m:=5) (by decide)) (B5x B) (by rw [A0e,hBl]) (QQ _) (fun r hr=>A1v hr) (B2F B)
def A6R (far:List Int) (k:Int) (n i:Nat):List Bool:=(List.range n).map fun v=>decide (v<i)&&decide (far.getD v 0<k)
def A9D (far:List Int) (k:Int) (n i:Nat):(A6R far k n i).length=n:=by simp [A6R]
def B3x (far:List Int) (k:Int) (n i v:Nat):(A6R far k n i)[v]? =if v<n then some (decide (v<i)&&decide (far.getD v 0<k)) else none:=by
 unfold A6R;rw [QW];by_cases h:v<n
 ·rw [if_pos h,Yv h]; rfl
 ·rw [if_neg h,Xx (by simpa using h)]; rfl
def C0G (far:List Int) (k:Int) {n i:Nat} (hi:i<n):(A6R far k n i).set i (decide (far.getD i 0<k))=A6R far k n (i+1):=by
 apply Zx;intro j;rw [Qw9,A9D,B3x,B3x];by_cases e:i=j
 ·subst e;rw [if_pos rfl,if_pos hi,if_pos hi,decide_eq_true (show i<i+1 by omega)]; rfl
 ·rw [if_neg e];by_cases h:j<n
  ·rw [if_pos h,if_pos h,decide_eq_decide.2 (show j<i↔j<i+1 by omega)]
  ·rw [if_neg h,if_neg h]
def B74 (far:List Int) (k:Int) (n:Nat):A6R far k n 0=List.replicate n false:=by
 apply Qq6
 ·simp [A6R]
 ·intro i h1 h2; simp [A6R]
end Go.Proofs.YtdbdfkohpjefjaaGreat
