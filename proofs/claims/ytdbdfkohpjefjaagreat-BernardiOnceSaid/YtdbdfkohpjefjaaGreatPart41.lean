/- A part of the proof. -/
import Derived.Test.YtdbdfkohpjefjaaGreatPart38
import Derived.Test.YtdbdfkohpjefjaaGreatPart39
set_option linter.all false
set_option maxHeartbeats 4000000
set_option maxRecDepth 100000
namespace Go.Proofs.YtdbdfkohpjefjaaGreat
open Go.Sp
def pW (w:Nat) (v:Int):Bool:=decide (B2s w v.toNat=1)
def aW (w:Nat) (v:Nat):Bool:=decide (B2s w v=1)
theorem B0w (n w:Nat):zI (setN n w)=inL (pW w) n:=by
 unfold zI setN inL;rw [List.filter_map];congr 1
theorem B9U {n w:Nat} (h1:1≤w) (h2:w<2^n): ∃v,v<n∧B2s w v=1:=by
 refine XZ fun hno=> ?_;have:w=0:=Nat.eq_of_testBit_eq fun i=>by
  rw [Nat.zero_testBit];by_cases hi:i<n
  ·by_cases hb:w.testBit i=true
   ·exact absurd ⟨i,hi,(A3S w i).2 hb⟩ hno
   ·simpa using hb
  ·exact Qx4 (ZY h2 (Qz5 (by omega) (by omega)))
 omega
theorem B9V {n w:Nat} (h1:1≤w) (h2:w<2^n):inL (pW w) n≠[]:=by
 obtain ⟨v,hv,hb⟩:=B9U h1 h2;intro e;have:(v:Int)∈inL (pW w) n:=A8Q.2 ⟨⟨by omega,by omega⟩,by unfold pW; rw [Int.toNat_natCast]; exact decide_eq_true hb⟩;rw [e] at this; cases this
theorem C2J {g:G} (hc:checkG g=0) (hl:g.es.length≤40):IndOk g:=by
 have hn:g.n=(g.n.toNat:Int):=by have:=(A0h.1 hc).1; omega
 refine ⟨fun w h1 h2=> ?_,fun w h1 h2=> ?_,fun w h1 h2=> ?_⟩
 all_goals have D:=(B37 hc hn (pW w)).2.2.2.2 (B9V h1 h2)
 ·rw [B0w]; exact D.1
 ·unfold indW; rw [B0w]; exact D.2.1
 ·unfold indW; rw [B0w]; have:=D.2.2.1; omega
theorem A9l {L:List (Int×Int)} {n:Nat} (h: ∀p,p∈L->(0≤p.1∧p.1<n)∧(0≤p.2∧p.2<n)):B2v L (gR L)∧ ∀x,x<2*L.length->gR L x<n:=by
 refine ⟨fun k hk=> ?_,fun x hx=> ?_⟩
 ·have hp:=h _ (Xw hk);rw [Qq hk];unfold gR atL;rw [if_pos (by omega),if_neg (by omega),show (2*k) / 2=k by omega,show (2*k+1) / 2=k by omega,Qz,Qq hk,Option.getD_some];refine congrArg some (Prod.ext ?_ ?_)
  ·show L[k].1=((L[k].1.toNat:Nat):Int); omega
  ·show L[k].2=((L[k].2.toNat:Nat):Int); omega
 ·have hk:x / 2<L.length:=by omega
  have hp:=h _ (Xw hk);unfold gR atL;rw [Qz,Qq hk,Option.getD_some];split<;>omega
theorem B0x (F:Nat->Int): ∀n,sumR F (n+1)=F 0+sumR (fun i=>F (i+1)) n
 | 0=>by simp [sumR]
 | n+1=>by
  have h:=B0x F n;show sumR F (n+1)+F (n+1)=F 0+(sumR (fun i=>F (i+1)) n+F (n+1));omega
theorem B2G (q:Int->Bool): ∀L:List (Int×Int),A4w q L=sumR (fun e=>if q (L.getD e (0,0)).1=true∧q (L.getD e (0,0)).2=true then 1 else 0) L.length
 | []=>rfl
 | p::L=>by
  have ih:=B2G q L;rw [A4w,ih,List.length_cons,B0x];rfl
theorem B4i (d:List Int) (w:Nat): ∀n,chA n (fun v=>d.getD v 0) (aW w)=A7T d (setN n w)
 | 0=>rfl
 | n+1=>by
  have h:=B4i d w n;unfold chA at h ⊢;rw [sumR,h,A65];unfold aW A7T;by_cases hb:B2s w n=1
  ·rw [if_pos hb,if_pos (decide_eq_true hb)]; simp
  ·rw [if_neg hb,if_neg (by simpa using hb)]; simp
theorem B50 (w:Nat): ∀n,B1r n (aW w)=(setN n w).length
 | 0=>rfl
 | n+1=>by
  have h:=B50 w n;unfold B1r at h ⊢;rw [sumR,h,A65];unfold aW;by_cases hb:B2s w n=1
  ·rw [if_pos hb,if_pos (decide_eq_true hb)]; simp
  ·rw [if_neg hb,if_neg (by simpa using hb)]; simp
section
variable {g:G} {n w:Nat}
theorem C55 (hc:checkG g=0) (hn:g.n=n) (h1:1≤w) (h2:w<2^n):indW g w=⟨(inL (pW w) n).length,(g.es.filter (A22 (A19 (inL (pW w) n)))).map (B0f (A19 (inL (pW w) n)))⟩:=by
 obtain ⟨q1,q2,q3⟩:=A0h.1 hc;have hF:B34 (A19 (inL (pW w) n)):=fun u v hu hv huv=>A8S (A5p _ _) hu hv huv;have D:=(B37 hc hn (pW w)).2.2.2.2 (B9V h1 h2);unfold indW;rw [show g.n.toNat=n by omega,B0w];unfold B7h;rw [if_neg (by rw [D.1]; simp),B4O hF (fun x hx=>by have:=q2 x hx; unfold okE at this; omega) q3]
theorem C2K (hc:checkG g=0) (hn:g.n=n) (h1:1≤w) (h2:w<2^n):checkG (indW g w)=0:=by
 have D:=(B37 hc hn (pW w)).2.2.2.2 (B9V h1 h2);unfold indW;rw [show g.n.toNat=n by omega,B0w]; exact D.2.1
theorem B9W {v:Nat}:0≤A19 (inL (pW w) n) (v:Int)↔v<n∧aW w v=true:=by
 rw [A7M,A8Q];unfold pW aW;rw [Int.toNat_natCast];constructor
 ·rintro ⟨q,h⟩; exact ⟨by omega,h⟩
 ·rintro ⟨q,h⟩; exact ⟨⟨by omega,by omega⟩,h⟩
theorem C56 {F:Int->Int} {x y:Int}:(x,y)∈endsL ((g.es.filter (A22 F)).map (B0f F))↔ ∃p,p∈endsL g.es∧0≤F p.1∧0≤F p.2∧x=F p.1∧y=F p.2:=by
 unfold endsL;constructor
 ·intro h;obtain ⟨e,he,hx⟩:=Jz.1 h;obtain ⟨e0,he0,rfl⟩:=QJ.1 he;obtain ⟨he1,hb⟩:=ZV.1 he0;simp only [A22,decide_eq_true_eq] at hb;have hx2:=Qz6 hx;have hm:(B0f F e0).m=e0.m:=rfl;rw [hm] at hx;refine ⟨(e0.a,e0.b),Jz.2 ⟨e0,he1,Wq.2 ⟨(Wq.1 hx).1,rfl⟩⟩,hb.1,hb.2,?_,?_⟩
  ·exact congrArg Prod.fst hx2
  ·exact congrArg Prod.snd hx2
 ·rintro ⟨p,hp,h1,h2,rfl,rfl⟩;obtain ⟨e,he,hx⟩:=Jz.1 hp;have hx2:=Qz6 hx;subst hx2;refine Jz.2 ⟨B0f F e,QJ.2 ⟨e,ZV.2 ⟨he,by simp only [A22,decide_eq_true_eq]; exact ⟨h1,h2⟩⟩,rfl⟩,?_⟩;exact Wq.2 ⟨(Wq.1 hx).1,rfl⟩
theorem C57 (hc:checkG g=0) (hn:g.n=n) (h1:1≤w) (h2:w<2^n):B90 g w=true↔C4l (endsL g.es).length n (gR (endsL g.es)) (aW w):=by
 have hE:=A9l (A2f hc hn);have hk:=C2K hc hn h1 h2;have he:=C55 hc hn h1 h2;have hS:=A5p (pW w) n;have hix: ∀v:Nat,0≤A19 (inL (pW w) n) (v:Int)↔v<n∧aW w v=true:=fun v=>B9W;have hmem:=fun x y=> @C56 g (A19 (inL (pW w) n)) x y;have hbk:=fun v=> @B8V (inL (pW w) n) v;have hgt:=fun i v=> @C19 (inL (pW w) n) hS i v;have hlt:=fun v=>B30 (inL (pW w) n) v;have hin: ∀x,x∈inL (pW w) n-> ∃v:Nat,x=v∧v<n∧aW w v=true:=fun x hx=>by
  obtain ⟨⟨q1,q2⟩,q3⟩:=A8Q.1 hx;exact ⟨x.toNat,by omega,by omega,q3⟩
 unfold B90;rw [he] at hk ⊢;rw [B2z hk rfl];show (∀u v,u<(inL (pW w) n).length->v<(inL (pW w) n).length->Conn (endsL ((g.es.filter (A22 (A19 (inL (pW w) n)))).map (B0f (A19 (inL (pW w) n))))) u v)↔_;generalize endsL ((g.es.filter (A22 (A19 (inL (pW w) n)))).map (B0f (A19 (inL (pW w) n))))=LH at*;generalize inL (pW w) n=S at*;generalize hL:endsL g.es=L at*;have hedge: ∀p,p∈L-> ∃f,f<L.length∧p=(((gR L (2*f):Nat):Int),((gR L (2*f+1):Nat):Int)):=fun p hp=>by
  obtain ⟨f,hf,rfl⟩:=YJ.1 hp;have:=hE.1 f hf;rw [Qq hf] at this;exact ⟨f,hf,Jw this⟩
 constructor
 ·intro hC B hu hv;obtain ⟨u,hu,au,bu⟩:=hu;obtain ⟨v,hv,av,bv⟩:=hv;refine XZ fun hno=> ?_;have hall: ∀f,f<L.length->aW w (gR L (2*f))=true->aW w (gR L (2*f+1))=true->B (gR L (2*f))=B (gR L (2*f+1)):=fun f hf a1 a2=>XZ fun q=>hno ⟨f,hf,a1,a2,q⟩;have iu:=(hix u).2 ⟨hu,au⟩;have iv:=(hix v).2 ⟨hv,av⟩;have key: ∀k,Conn LH (A19 S u).toNat k-> ∃x:Nat,S[k]? =some (x:Int)∧B x=true:=by
   intro k hk
   induction hk with
   | refl=>exact ⟨u,hbk _ iu,bu⟩
   | @step b c _ hs ih=>
    obtain ⟨x,hx,bx⟩:=ih;have step: ∀p,p∈L->0≤A19 S p.1->0≤A19 S p.2-> ∃y z:Nat,p.1=(y:Int)∧p.2=(z:Int)∧B y=B z:=fun p hp q1 q2=>by
     obtain ⟨f,hf,rfl⟩:=hedge p hp;exact ⟨_,_,rfl,rfl,hall f hf ((hix _).1 q1).2 ((hix _).1 q2).2⟩
    rcases hs with hs | hs
    ·obtain ⟨p,hp,q1,q2,e1,e2⟩:=(hmem _ _).1 hs;obtain ⟨y,z,r1,r2,r3⟩:=step p hp q1 q2;have s1:=hbk _ q1;have s2:=hbk _ q2;rw [show (A19 S p.1).toNat=b by omega] at s1;rw [show (A19 S p.2).toNat=c by omega] at s2;rw [hx] at s1;have:=Jw s1;rw [r1] at this;have hxy:x=y:=by omega
     exact ⟨z,by rw [s2,r2],by rw [<-r3,<-hxy]; exact bx⟩
    ·obtain ⟨p,hp,q1,q2,e1,e2⟩:=(hmem _ _).1 hs;obtain ⟨y,z,r1,r2,r3⟩:=step p hp q1 q2;have s1:=hbk _ q1;have s2:=hbk _ q2;rw [show (A19 S p.1).toNat=c by omega] at s1;rw [show (A19 S p.2).toNat=b by omega] at s2;rw [hx] at s2;have:=Jw s2;rw [r2] at this;have hxy:x=z:=by omega
     exact ⟨y,by rw [s1,r1],by rw [r3,<-hxy]; exact bx⟩
  have l1:=hlt u;have l2:=hlt v;obtain ⟨x,hx,bx⟩:=key _ (hC (A19 S u).toNat (A19 S v).toNat (by omega) (by omega));rw [hbk _ iv] at hx;have:=Jw hx;have:v=x:=by omega
  rw [<-this,bv] at bx; cases bx
 ·intro hA i j hi hj;refine XZ fun hno=> ?_
  classical
  obtain ⟨u,eu,hu,au⟩:=hin _ (Xw hi);obtain ⟨v,ev,hv,av⟩:=hin _ (Xw hj);have fu:=hgt i u (by rw [Qq hi,eu]);have fv:=hgt j v (by rw [Qq hj,ev]);obtain ⟨f,hf,a1,a2,hb⟩:=hA (fun x=>decide (Conn LH i (A19 S x).toNat)) ⟨u,hu,au,by rw [fu]; exact decide_eq_true .refl⟩ ⟨v,hv,av,by rw [fv]; exact decide_eq_false hno⟩;have i1:=(hix (gR L (2*f))).2 ⟨hE.2 _ (by omega),a1⟩;have i2:=(hix (gR L (2*f+1))).2 ⟨hE.2 _ (by omega),a2⟩;have hm:=(hmem _ _).2 ⟨_,Qy (hE.1 f hf),i1,i2,rfl,rfl⟩;simp only at hm;rw [show A19 S (gR L (2*f):Nat)=((A19 S (gR L (2*f):Nat)).toNat:Int) by omega,show A19 S (gR L (2*f+1):Nat)=((A19 S (gR L (2*f+1):Nat)).toNat:Int) by omega] at hm;refine hb (decide_eq_decide.2 ⟨fun q=>q.step (.inl hm),fun q=>q.step (.inr hm)⟩)
theorem C2L (hc:checkG g=0) (hn:g.n=n) (h1:1≤w) (h2:w<2^n) (hcon:B90 g w=true):B7n g w=inE (endsL g.es).length (gR (endsL g.es)) (aW w)-B1r n (aW w)+1:=by
 have hk:=C2K hc hn h1 h2;have he:=C55 hc hn h1 h2;have hr:=A2f hc hn;have hl:(setN n w).length=(inL (pW w) n).length:=by rw [<-B0w,A35]
 unfold B7n;unfold B90 connB at hcon;rw [he] at hk hcon ⊢;rw [C1v hk rfl];have hp:=of_decide_eq_true hcon;simp only [Int.toNat_natCast] at hp ⊢;rw [hp,B4P (fun x hx=>by have:=(A0h.1 hc).2.1 x hx; unfold okE at this; omega),B50,hl,B2G];have e:sumR (fun e=>if decide (0≤A19 (inL (pW w) n) ((endsL g.es).getD e (0,0)).1)=true∧decide (0≤A19 (inL (pW w) n) ((endsL g.es).getD e (0,0)).2)=true then (1:Int) else 0) (endsL g.es).length=inE (endsL g.es).length (gR (endsL g.es)) (aW w):=by
  unfold inE;refine A0w fun f hf=> ?_;have hE:=(A9l hr).1 f hf;have hg:=(A9l hr).2;rw [Qz,hE,Option.getD_some];simp only;have i1:= @B9W n w (gR (endsL g.es) (2*f));have i2:= @B9W n w (gR (endsL g.es) (2*f+1));have b1:=hg (2*f) (by omega);have b2:=hg (2*f+1) (by omega);by_cases c:aW w (gR (endsL g.es) (2*f))=true∧aW w (gR (endsL g.es) (2*f+1))=true
  ·rw [if_pos c,if_pos ⟨decide_eq_true (i1.2 ⟨b1,c.1⟩),decide_eq_true (i2.2 ⟨b2,c.2⟩)⟩]
  ·rw [if_neg c,if_neg fun q=>c ⟨(i1.1 (of_decide_eq_true q.1)).2,(i2.1 (of_decide_eq_true q.2)).2⟩]
 rw [e]; omega
end
section
variable {E n:Nat} {gf:Nat->Nat} {A A':Nat->Bool}
theorem B6R (hg: ∀x,x<2*E->gf x<n) (h: ∀v,v<n->A v=A' v) (hc:C4l E n gf A):C4l E n gf A':=fun B hu hv=>by
 obtain ⟨u,hu,au,bu⟩:=hu;obtain ⟨v,hv,av,bv⟩:=hv;obtain ⟨f,hf,a1,a2,hb⟩:=hc B ⟨u,hu,by rw [h u hu]; exact au,bu⟩ ⟨v,hv,by rw [h v hv]; exact av,bv⟩;exact ⟨f,hf,by rw [<-h _ (hg _ (by omega))]; exact a1,by rw [<-h _ (hg _ (by omega))]; exact a2,hb⟩
theorem B2H (hg: ∀x,x<2*E->gf x<n) (h: ∀v,v<n->A v=A' v):inE E gf A=inE E gf A':=A0w fun f hf=>by
 rw [h _ (hg _ (by omega)),h _ (hg _ (by omega))]
theorem B0y (h: ∀v,v<n->A v=A' v):B1r n A=B1r n A':=A0w fun v hv=>by rw [h v hv]
theorem B2I (D:Nat->Int) (h: ∀v,v<n->A v=A' v):chA n D A=chA n D A':=A0w fun v hv=>by rw [h v hv]
end
theorem C4s (A:Nat->Bool) (n:Nat): ∀v,v<n->A v=aW (A7D A n) v:=fun v hv=>by
 have h:=A2P A n v hv;unfold aW;by_cases hb:A v=true
 ·rw [hb,decide_eq_true ((A3S _ _).2 (by rw [h,hb]))]
 ·have hb:A v=false:=by simpa using hb
  rw [hb,decide_eq_false fun q=>by rw [A3S,h,hb] at q; cases q]
theorem C58 {w v:Nat} (h:aW w v=true):1≤w:=by
 have h:=of_decide_eq_true h;rcases Qj2 w with e | e
 ·rw [e] at h; unfold B2s at h; simp at h
 ·exact e
theorem B2J {g:G} {k w:Nat}:w∈A4S g k↔(1≤w∧w≤k)∧B90 g w=true:=by
 unfold A4S;rw [ZV,QJ];constructor
 ·rintro ⟨⟨a,ha,rfl⟩,h⟩; have:=XQ.1 ha; exact ⟨by omega,h⟩
 ·rintro ⟨h,h2⟩; exact ⟨⟨w-1,XQ.2 (by omega),by omega⟩,h2⟩
theorem B9X {n w:Nat}:(setN n w).length=n↔ ∀v,v<n->aW w v=true:=by
 unfold setN;have h:=List.length_filter_eq_length_iff (l:=List.range n) (p:=fun v=>decide (B2s w v=1));rw [Vj] at h;rw [h];exact ⟨fun q v hv=>q v (XQ.2 hv),fun q v hv=>q v (XQ.1 hv)⟩
theorem C2f {g:G} {n:Nat} (hc:checkG g=0) (hn:g.n=n) (hcon:connB g=true):C4l (endsL g.es).length n (gR (endsL g.es)) (fun _=>true):=fun B hu hv=>by
 obtain ⟨u,hu,-,bu⟩:=hu;obtain ⟨v,hv,-,bv⟩:=hv;refine XZ fun hno=> ?_;have hE:=(A9l (A2f hc hn)).1;have hall: ∀f,f<(endsL g.es).length->B (gR (endsL g.es) (2*f))=B (gR (endsL g.es) (2*f+1)):=fun f hf=>XZ fun q=>hno ⟨f,hf,rfl,rfl,q⟩;have he: ∀b c:Nat,((b:Int),(c:Int))∈endsL g.es->B b=B c:=fun b c h=>by
  obtain ⟨f,hf,e⟩:=YJ.1 h;have h2:=hE f hf;rw [Qq hf,e] at h2;have h3:=Prod.mk.inj (Jw h2);rw [show b=gR (endsL g.es) (2*f) by omega,show c=gR (endsL g.es) (2*f+1) by omega];exact hall f hf
 have key: ∀k,Conn (endsL g.es) u k->B k=true:=fun k hk=>by
  induction hk with
  | refl=>exact bu
  | @step b c _ hs ih=>
   rcases hs with hs | hs
   ·rw [<-he _ _ hs]; exact ih
   ·rw [he _ _ hs]; exact ih
 rw [key v ((B2z hc hn).1 hcon u v hu hv)] at bv; cases bv
theorem B9Y (E:Nat) (gf:Nat->Nat):inE E gf (fun _=>true)=E:=by
 unfold inE;rw [A0w (g:=fun _=>1) fun _ _=>if_pos ⟨rfl,rfl⟩,A5q]; omega
theorem B51 (n:Nat):B1r n (fun _=>true)=n:=by
 unfold B1r;rw [A0w (g:=fun _=>1) fun _ _=>if_pos rfl,A5q]; omega
theorem B9Z (n:Nat) (D:Nat->Int):chA n D (fun _=>true)=sumR D n:=A0w fun _ _=>if_pos rfl
theorem C0a {g:G} {n w:Nat} (hn:g.n=n) (d:List Int):okS g d w=true↔B7n g w≤A7T d (setN n w)∧((setN n w).length=n->A7T d (setN n w)=B7n g w):=by
 unfold okS;rw [show g.n.toNat=n by omega];simp only [hn];by_cases h1:A7T d (setN n w)<B7n g w
 ·simp [h1]; omega
 ·by_cases h2:(setN n w).length=n
  ·by_cases h3:A7T d (setN n w)=B7n g w
   ·simp [h1,h2,h3]
   ·simp [h1,h2,h3]
  ·simp [h1,h2]; omega
theorem C2g {g:G} {n:Nat} (hc:checkG g=0) (hn:g.n=n) (hcon:connB g=true) (d:List Int):B9O g d=true↔BrkD (endsL g.es).length n (gR (endsL g.es)) (fun v=>d.getD v 0):=by
 have h12:=(A0h.1 hc).1;have hg:=(A9l (A2f hc hn)).2;have hp:2^n=2^n-1+1:=by have:=Nat.two_pow_pos n; omega
 unfold B9O;rw [Zv,show g.n.toNat=n by omega];constructor
 ·intro h;have key: ∀A:Nat->Bool,(∃v,v<n∧A v=true)->C4l (endsL g.es).length n (gR (endsL g.es)) A->inE (endsL g.es).length (gR (endsL g.es)) A-B1r n A+1≤chA n (fun v=>d.getD v 0) A∧((∀v,v<n->A v=true)->chA n (fun v=>d.getD v 0) A=inE (endsL g.es).length (gR (endsL g.es)) A-B1r n A+1):=fun A hA hcA=>by
   have hm:=C4s A n;have hlt:=A7U A n;obtain ⟨v,hv,av⟩:=hA;have h1:1≤A7D A n:=C58 (v:=v) (by rw [<-hm v hv]; exact av);generalize A7D A n=w at*;have hcw:=(C57 hc hn h1 hlt).2 (B6R hg hm hcA);have ho:=(C0a hn d).1 (h w (B2J.2 ⟨⟨h1,by omega⟩,hcw⟩));rw [C2L hc hn h1 hlt hcw,<-B4i] at ho;rw [B2H hg hm,B0y hm,B2I _ hm];refine ⟨ho.1,fun hall=>ho.2 (B9X.2 fun v hv=>by rw [<-hm v hv]; exact hall v hv)⟩
  refine C2c ?_ fun A hA hcA=>(key A hA hcA).1;have:=(key (fun _=>true) ⟨0,by omega,rfl⟩ (C2f hc hn hcon)).2 fun _ _=>rfl;rw [B9Y,B51,B9Z] at this;exact this
 ·intro hB w hw;obtain ⟨⟨h1,h2⟩,hcw⟩:=B2J.1 hw;have hlt:w<2^n:=by omega
  rw [C0a hn,C2L hc hn h1 hlt hcw,<-B4i];obtain ⟨v,hv,hb⟩:=B9U h1 hlt;refine ⟨hB.low (aW w) ⟨v,hv,decide_eq_true hb⟩,fun hl=> ?_⟩;have hall:=B9X.1 hl;have hm: ∀v,v<n->aW w v=(fun _=>true) v:=fun v hv=>hall v hv;rw [B2H hg hm,B0y hm,B2I _ hm,B9Y,B51,B9Z,hB.deg]
theorem A1W {g:G} (h:A0r g=0):checkG g=0∧connB g=true:=by
 unfold A0r at h;by_cases hc:checkG g=0
 ·rw [if_neg (by omega)] at h;by_cases hb:connB g=true
  ·exact ⟨hc,hb⟩
  ·rw [if_neg hb] at h; cases h
 ·rw [if_pos hc] at h; exact absurd h hc
def C59 (g:G) (d:List Int):Int:=if A0r g≠0 then A0r g else B4e d g.n
theorem C2h (g:G) (d:List Int) (hl:g.es.length≤40) (hdl:d.length<2^40):
  ACall Tryz.prog 34 [tG g,A0m d] (.tup [A0z (decide (C59 g d=0)&&B9O g d),A0k (C59 g d)]):=by
 have hJ:=B0r g hl;have hC:=A9f d g.n hdl;unfold C59;by_cases h0:A0r g=0
 ·rw [if_neg (by omega)];obtain ⟨hc,hcon⟩:=A1W h0;rw [h0] at hJ;by_cases h1:B4e d g.n=0
  ·rw [h1] at hC ⊢;rw [show decide ((0:Int)=0)=true from rfl,Vw];have h12:=(A0h.1 hc).1;obtain ⟨n,hn⟩: ∃n:Nat,g.n=n:=⟨g.n.toNat,by omega⟩;rw [hn] at h1;obtain ⟨q1,q2,q3,q4⟩:=B9C h1;have hB:=B26 g d (C2J hc hl) h12 hl (by omega) (fun v _=>by have:=q4 v; omega);generalize B9O g d=b at*;obtain ⟨n',es⟩:=g;refine ACall.of_body Tryz.func34 rfl (by kernel_rfl) ?_;simp only [entry,Tryz.ntmps34,tG,A0m];refine zU ?_;refine zR Qw9 (zc hJ (zc hC (zc hB Qw9))) Qw9 ?_;simp [A0y,A0x,Blk.cells,ty,Tryz.results34,A0s,A0t,toT,A0d,A0b,A0c,A0a,A0k,A0z]
  ·rw [decide_eq_false h1,VW];generalize B4e d g.n=e at*;obtain ⟨n',es⟩:=g;refine ACall.of_body Tryz.func34 rfl (by kernel_rfl) ?_;simp only [entry,Tryz.ntmps34,tG,A0m];refine zU ?_;refine zR (zc @h1 Qw9) (zc hJ (zc hC Qw9)) Qw9 ?_;simp [A0y,A0x,Blk.cells,ty,Tryz.results34,A0s,A0t,toT,A0d,A0b,A0c,A0a,A0k,A0z]
 ·rw [if_pos h0,decide_eq_false h0,VW];generalize A0r g=e at*;obtain ⟨n',es⟩:=g;refine ACall.of_body Tryz.func34 rfl (by kernel_rfl) ?_;simp only [entry,Tryz.ntmps34,tG,A0m];refine zU ?_;refine zR (zc @h0 Qw9) (zc hJ Qw9) Qw9 ?_;simp [A0y,A0x,Blk.cells,ty,Tryz.results34,A0s,A0t,toT,A0d,A0b,A0c,A0a,A0k,A0z]
end Go.Proofs.YtdbdfkohpjefjaaGreat
