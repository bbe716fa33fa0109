/- A part of the proof. -/
import Derived.Test.YtdbdfkohpjefjaaGreatPart25
import Derived.Test.YtdbdfkohpjefjaaGreatPart26
import Derived.Test.YtdbdfkohpjefjaaGreatPart27
set_option linter.all false
set_option maxHeartbeats 4000000
set_option maxRecDepth 100000
namespace Go.Proofs.YtdbdfkohpjefjaaGreat
open Go.Sp
def pW (w:Nat) (v:Int):Bool:=decide (B3x w v.toNat=1)
def aW (w:Nat) (v:Nat):Bool:=decide (B3x w v=1)
def B1f (n w:Nat):zI (setN n w)=inL (pW w) n:=by
 unfold zI setN inL;rw [List.filter_map];congr 1
def C1p {n w:Nat} (h1:1≤w) (h2:w<2^n): ∃v,v<n∧B3x w v=1:=by
 refine QJ fun hno=> ?_;have:w=0:=Nat.eq_of_testBit_eq fun i=>by
  rw [Nat.zero_testBit];by_cases hi:i<n
  ·by_cases hb:w.testBit i=true
   ·exact absurd ⟨i,hi,(A4e w i).2 hb⟩ hno
   ·simpa using hb
  ·exact Qz3 (ZW h2 (Qq3 (by omega) (by omega)))
 omega
def C1q {n w:Nat} (h1:1≤w) (h2:w<2^n):inL (pW w) n≠[]:=by
 obtain ⟨v,hv,hb⟩:=C1p h1 h2;intro e;have:(v:Int)∈inL (pW w) n:=A9v.2 ⟨⟨by omega,by omega⟩,by unfold pW; rw [Int.toNat_natCast]; exact decide_eq_true hb⟩;rw [e] at this; cases this
def C4k {g:G} (hc:checkG g=0) (hl:g.es.length≤40):IndOk g:=by
 have hn:g.n=(g.n.toNat:Int):=by have:=(A0h.1 hc).1; omega
 refine ⟨fun w h1 h2=> ?_,fun w h1 h2=> ?_,fun w h1 h2=> ?_⟩
 all_goals have D:=(B4C hc hn (pW w)).2.2.2.2 (C1q h1 h2)
 ·rw [B1f]; exact D.1
 ·unfold indW; rw [B1f]; exact D.2.1
 ·unfold indW; rw [B1f]; have:=D.2.2.1; omega
variable {L:List (Int×Int)}
def A9M {n:Nat} (h: ∀p,p∈L->(0≤p.1∧p.1<n)∧(0≤p.2∧p.2<n)):B0a L (gR L)∧ ∀x,x<2*L.length->gR L x<n:=by
 refine ⟨fun k hk=> ?_,fun x hx=> ?_⟩
 ·have hp:=h _ (Xw hk);rw [Qq hk];unfold gR atL;rw [if_pos (by omega),if_neg (by omega),show (2*k) / 2=k by omega,show (2*k+1) / 2=k by omega,Qz,Qq hk,Option.getD_some];refine congrArg some (Prod.ext ?_ ?_)
  ·show L[k].1=((L[k].1.toNat:Nat):Int); omega
  ·show L[k].2=((L[k].2.toNat:Nat):Int); omega
 ·have hk:x / 2<L.length:=by omega
  have hp:=h _ (Xw hk);unfold gR atL;rw [Qz,Qq hk,Option.getD_some];split<;>omega
def B1g (F:Nat->Int): ∀n,sumR F (n+1)=F 0+sumR (fun i=>F (i+1)) n
 | 0=>by simp [sumR]
 | n+1=>by
  have h:=B1g F n;show sumR F (n+1)+F (n+1)=F 0+(sumR (fun i=>F (i+1)) n+F (n+1));omega
def B3E (q:Int->Bool): ∀L:List (Int×Int),A47 q L=sumR (fun e=>if q (L.getD e (0,0)).1=true∧q (L.getD e (0,0)).2=true then 1 else 0) L.length
 | []=>rfl
 | p::L=>by
  have ih:=B3E q L;rw [A47,ih,List.length_cons,B1g];rfl
def B5j (d:List Int) (w:Nat): ∀n,chA n (fun v=>d.getD v 0) (aW w)=A80 d (setN n w)
 | 0=>rfl
 | n+1=>by
  have h:=B5j d w n;unfold chA at h ⊢;rw [sumR,h,A6L];unfold aW A80;by_cases hb:B3x w n=1
  ·rw [if_pos hb,if_pos (decide_eq_true hb)]; simp
  ·rw [if_neg hb,if_neg (by simpa using hb)]; simp
def B61 (w:Nat): ∀n,B2n n (aW w)=(setN n w).length
 | 0=>rfl
 | n+1=>by
  have h:=B61 w n;unfold B2n at h ⊢;rw [sumR,h,A6L];unfold aW;by_cases hb:B3x w n=1
  ·rw [if_pos hb,if_pos (decide_eq_true hb)]; simp
  ·rw [if_neg hb,if_neg (by simpa using hb)]; simp
section
variable {g:G} {n w:Nat}
def C7a (hc:checkG g=0) (hn:g.n=n) (h1:1≤w) (h2:w<2^n):indW g w=⟨(inL (pW w) n).length,(g.es.filter (A2B (A1A (inL (pW w) n)))).map (B0I (A1A (inL (pW w) n)))⟩:=by
 obtain ⟨q1,q2,q3⟩:=A0h.1 hc;have hF:B49 (A1A (inL (pW w) n)):=fun u v hu hv huv=>A9x (A57 _ _) hu hv huv;have D:=(B4C hc hn (pW w)).2.2.2.2 (C1q h1 h2);unfold indW;rw [show g.n.toNat=n by omega,B1f];unfold B8i;rw [if_neg (by rw [D.1]; simp),B5Q hF (fun x hx=>by have:=q2 x hx; unfold okE at this; omega) q3]
def C4l (hc:checkG g=0) (hn:g.n=n) (h1:1≤w) (h2:w<2^n):checkG (indW g w)=0:=by
 have D:=(B4C hc hn (pW w)).2.2.2.2 (C1q h1 h2);unfold indW;rw [show g.n.toNat=n by omega,B1f]; exact D.2.1
def C1r {v:Nat}:0≤A1A (inL (pW w) n) (v:Int)↔v<n∧aW w v=true:=by
 rw [A8p,A9v];unfold pW aW;rw [Int.toNat_natCast];constructor
 ·rintro ⟨q,h⟩; exact ⟨by omega,h⟩
 ·rintro ⟨q,h⟩; exact ⟨⟨by omega,by omega⟩,h⟩
def C7b {F:Int->Int} {x y:Int}:(x,y)∈endsL ((g.es.filter (A2B F)).map (B0I F))↔ ∃p,p∈endsL g.es∧0≤F p.1∧0≤F p.2∧x=F p.1∧y=F p.2:=by
 unfold endsL;constructor
 ·intro h;obtain ⟨e,he,hx⟩:=Jy.1 h;obtain ⟨e0,he0,rfl⟩:=QY.1 he;obtain ⟨he1,hb⟩:=ZV.1 he0;simp only [A2B,decide_eq_true_eq] at hb;have hx2:=Qw7 hx;have hm:(B0I F e0).m=e0.m:=rfl;rw [hm] at hx;refine ⟨(e0.a,e0.b),Jy.2 ⟨e0,he1,Wq.2 ⟨(Wq.1 hx).1,rfl⟩⟩,hb.1,hb.2,?_,?_⟩
  ·exact congrArg Prod.fst hx2
  ·exact congrArg Prod.snd hx2
 ·rintro ⟨p,hp,h1,h2,rfl,rfl⟩;obtain ⟨e,he,hx⟩:=Jy.1 hp;have hx2:=Qw7 hx;subst hx2;refine Jy.2 ⟨B0I F e,QY.2 ⟨e,ZV.2 ⟨he,by simp only [A2B,decide_eq_true_eq]; exact ⟨h1,h2⟩⟩,rfl⟩,?_⟩;exact Wq.2 ⟨(Wq.1 hx).1,rfl⟩
def C7c (hc:checkG g=0) (hn:g.n=n) (h1:1≤w) (h2:w<2^n):C0D g w=true↔C5D (endsL g.es).length n (gR (endsL g.es)) (aW w):=by
 have hE:=A9M (A1V hc hn);have hk:=C4l hc hn h1 h2;have he:=C7a hc hn h1 h2;have hS:=A57 (pW w) n;have hix: ∀v:Nat,0≤A1A (inL (pW w) n) (v:Int)↔v<n∧aW w v=true:=fun v=>C1r;have hmem:=fun x y=> @C7b g (A1A (inL (pW w) n)) x y;have hbk:=fun v=> @C0u (inL (pW w) n) v;have hgt:=fun i v=> @C3j (inL (pW w) n) hS i v;have hlt:=fun v=>B41 (inL (pW w) n) v;have hin: ∀x,x∈inL (pW w) n-> ∃v:Nat,x=v∧v<n∧aW w v=true:=fun x hx=>by
  obtain ⟨⟨q1,q2⟩,q3⟩:=A9v.1 hx;exact ⟨x.toNat,by omega,by omega,q3⟩
 unfold C0D;rw [he] at hk ⊢;rw [A6M hk rfl];show (∀u v,u<(inL (pW w) n).length->v<(inL (pW w) n).length->Conn (endsL ((g.es.filter (A2B (A1A (inL (pW w) n)))).map (B0I (A1A (inL (pW w) n))))) u v)↔_;generalize endsL ((g.es.filter (A2B (A1A (inL (pW w) n)))).map (B0I (A1A (inL (pW w) n))))=LH at*;generalize inL (pW w) n=S at*;generalize hL:endsL g.es=L at*;have hedge: ∀p,p∈L-> ∃f,f<L.length∧p=(((gR L (2*f):Nat):Int),((gR L (2*f+1):Nat):Int)):=fun p hp=>by
  obtain ⟨f,hf,rfl⟩:=Jk.1 hp;have:=hE.1 f hf;rw [Qq hf] at this;exact ⟨f,hf,JX this⟩
 constructor
 ·intro hC B hu hv;obtain ⟨u,hu,au,bu⟩:=hu;obtain ⟨v,hv,av,bv⟩:=hv;refine QJ fun hno=> ?_;have hall: ∀f,f<L.length->aW w (gR L (2*f))=true->aW w (gR L (2*f+1))=true->B (gR L (2*f))=B (gR L (2*f+1)):=fun f hf a1 a2=>QJ fun q=>hno ⟨f,hf,a1,a2,q⟩;have iu:=(hix u).2 ⟨hu,au⟩;have iv:=(hix v).2 ⟨hv,av⟩;have key: ∀k,Conn LH (A1A S u).toNat k-> ∃x:Nat,S[k]? =some (x:Int)∧B x=true:=by
   intro k hk
   induction hk with
   | refl=>exact ⟨u,hbk _ iu,bu⟩
   | @step b c _ hs ih=>
    obtain ⟨x,hx,bx⟩:=ih;have step: ∀p,p∈L->0≤A1A S p.1->0≤A1A S p.2-> ∃y z:Nat,p.1=(y:Int)∧p.2=(z:Int)∧B y=B z:=fun p hp q1 q2=>by
     obtain ⟨f,hf,rfl⟩:=hedge p hp;exact ⟨_,_,rfl,rfl,hall f hf ((hix _).1 q1).2 ((hix _).1 q2).2⟩
    rcases hs with hs | hs
    ·obtain ⟨p,hp,q1,q2,e1,e2⟩:=(hmem _ _).1 hs;obtain ⟨y,z,r1,r2,r3⟩:=step p hp q1 q2;have s1:=hbk _ q1;have s2:=hbk _ q2;rw [show (A1A S p.1).toNat=b by omega] at s1;rw [show (A1A S p.2).toNat=c by omega] at s2;rw [hx] at s1;have:=JX s1;rw [r1] at this;have hxy:x=y:=by omega
     exact ⟨z,by rw [s2,r2],by rw [<-r3,<-hxy]; exact bx⟩
    ·obtain ⟨p,hp,q1,q2,e1,e2⟩:=(hmem _ _).1 hs;obtain ⟨y,z,r1,r2,r3⟩:=step p hp q1 q2;have s1:=hbk _ q1;have s2:=hbk _ q2;rw [show (A1A S p.1).toNat=c by omega] at s1;rw [show (A1A S p.2).toNat=b by omega] at s2;rw [hx] at s2;have:=JX s2;rw [r2] at this;have hxy:x=z:=by omega
     exact ⟨y,by rw [s1,r1],by rw [r3,<-hxy]; exact bx⟩
  have l1:=hlt u;have l2:=hlt v;obtain ⟨x,hx,bx⟩:=key _ (hC (A1A S u).toNat (A1A S v).toNat (by omega) (by omega));rw [hbk _ iv] at hx;have:=JX hx;have:v=x:=by omega
  rw [<-this,bv] at bx; cases bx
 ·intro hA i j hi hj;refine QJ fun hno=> ?_
  classical
  obtain ⟨u,eu,hu,au⟩:=hin _ (Xw hi);obtain ⟨v,ev,hv,av⟩:=hin _ (Xw hj);have fu:=hgt i u (by rw [Qq hi,eu]);have fv:=hgt j v (by rw [Qq hj,ev]);obtain ⟨f,hf,a1,a2,hb⟩:=hA (fun x=>decide (Conn LH i (A1A S x).toNat)) ⟨u,hu,au,by rw [fu]; exact decide_eq_true .refl⟩ ⟨v,hv,av,by rw [fv]; exact decide_eq_false hno⟩;have i1:=(hix (gR L (2*f))).2 ⟨hE.2 _ (by omega),a1⟩;have i2:=(hix (gR L (2*f+1))).2 ⟨hE.2 _ (by omega),a2⟩;have hm:=(hmem _ _).2 ⟨_,Qv (hE.1 f hf),i1,i2,rfl,rfl⟩;simp only at hm;rw [show A1A S (gR L (2*f):Nat)=((A1A S (gR L (2*f):Nat)).toNat:Int) by omega,show A1A S (gR L (2*f+1):Nat)=((A1A S (gR L (2*f+1):Nat)).toNat:Int) by omega] at hm;refine hb (decide_eq_decide.2 ⟨fun q=>q.step (.inl hm),fun q=>q.step (.inr hm)⟩)
def C4m (hc:checkG g=0) (hn:g.n=n) (h1:1≤w) (h2:w<2^n) (hcon:C0D g w=true):B8p g w=inE (endsL g.es).length (gR (endsL g.es)) (aW w)-B2n n (aW w)+1:=by
 have hk:=C4l hc hn h1 h2;have he:=C7a hc hn h1 h2;have hr:=A1V hc hn;have hl:(setN n w).length=(inL (pW w) n).length:=by rw [<-B1f,A3n]
 unfold B8p;unfold C0D connB at hcon;rw [he] at hk hcon ⊢;rw [C2K hk rfl];have hp:=of_decide_eq_true hcon;simp only [Int.toNat_natCast] at hp ⊢;rw [hp,B5R (fun x hx=>by have:=(A0h.1 hc).2.1 x hx; unfold okE at this; omega),B61,hl,B3E];have e:sumR (fun e=>if decide (0≤A1A (inL (pW w) n) ((endsL g.es).getD e (0,0)).1)=true∧decide (0≤A1A (inL (pW w) n) ((endsL g.es).getD e (0,0)).2)=true then (1:Int) else 0) (endsL g.es).length=inE (endsL g.es).length (gR (endsL g.es)) (aW w):=by
  unfold inE;refine A0g fun f hf=> ?_;have hE:=(A9M hr).1 f hf;have hg:=(A9M hr).2;rw [Qz,hE,Option.getD_some];simp only;have i1:= @C1r n w (gR (endsL g.es) (2*f));have i2:= @C1r n w (gR (endsL g.es) (2*f+1));have b1:=hg (2*f) (by omega);have b2:=hg (2*f+1) (by omega);by_cases c:aW w (gR (endsL g.es) (2*f))=true∧aW w (gR (endsL g.es) (2*f+1))=true
  ·rw [if_pos c,if_pos ⟨decide_eq_true (i1.2 ⟨b1,c.1⟩),decide_eq_true (i2.2 ⟨b2,c.2⟩)⟩]
  ·rw [if_neg c,if_neg fun q=>c ⟨(i1.1 (of_decide_eq_true q.1)).2,(i2.1 (of_decide_eq_true q.2)).2⟩]
 rw [e]; omega
end
section
variable {E n:Nat} {gf:Nat->Nat} {A A':Nat->Bool}
def B7V (hg: ∀x,x<2*E->gf x<n) (h: ∀v,v<n->A v=A' v) (hc:C5D E n gf A):C5D E n gf A':=fun B hu hv=>by
 obtain ⟨u,hu,au,bu⟩:=hu;obtain ⟨v,hv,av,bv⟩:=hv;obtain ⟨f,hf,a1,a2,hb⟩:=hc B ⟨u,hu,by rw [h u hu]; exact au,bu⟩ ⟨v,hv,by rw [h v hv]; exact av,bv⟩;exact ⟨f,hf,by rw [<-h _ (hg _ (by omega))]; exact a1,by rw [<-h _ (hg _ (by omega))]; exact a2,hb⟩
def B3F (hg: ∀x,x<2*E->gf x<n) (h: ∀v,v<n->A v=A' v):inE E gf A=inE E gf A':=A0g fun f hf=>by
 rw [h _ (hg _ (by omega)),h _ (hg _ (by omega))]
def B1h (h: ∀v,v<n->A v=A' v):B2n n A=B2n n A':=A0g fun v hv=>by rw [h v hv]
def B3G (D:Nat->Int) (h: ∀v,v<n->A v=A' v):chA n D A=chA n D A':=A0g fun v hv=>by rw [h v hv]
end
def C5O (A:Nat->Bool) (n:Nat): ∀v,v<n->A v=aW (A8g A n) v:=fun v hv=>by
 have h:=A2X A n v hv;unfold aW;by_cases hb:A v=true
 ·rw [hb,decide_eq_true ((A4e _ _).2 (by rw [h,hb]))]
 ·have hb:A v=false:=by simpa using hb
  rw [hb,decide_eq_false fun q=>by rw [A4e,h,hb] at q; cases q]
def C7d {w v:Nat} (h:aW w v=true):1≤w:=by
 have h:=of_decide_eq_true h;rcases Qz6 w with e | e
 ·rw [e] at h; unfold B3x at h; simp at h
 ·exact e
def B3H {g:G} {k w:Nat}:w∈A5h g k↔(1≤w∧w≤k)∧C0D g w=true:=by
 unfold A5h;rw [ZV,QY];constructor
 ·rintro ⟨⟨a,ha,rfl⟩,h⟩; have:=Xk.1 ha; exact ⟨by omega,h⟩
 ·rintro ⟨h,h2⟩; exact ⟨⟨w-1,Xk.2 (by omega),by omega⟩,h2⟩
def C1s {n w:Nat}:(setN n w).length=n↔ ∀v,v<n->aW w v=true:=by
 unfold setN;have h:=List.length_filter_eq_length_iff (l:=List.range n) (p:=fun v=>decide (B3x w v=1));rw [Vy] at h;rw [h];exact ⟨fun q v hv=>q v (Xk.2 hv),fun q v hv=>q v (Xk.1 hv)⟩
def C37 {g:G} {n:Nat} (hc:checkG g=0) (hn:g.n=n) (hcon:connB g=true):C5D (endsL g.es).length n (gR (endsL g.es)) (fun _=>true):=fun B hu hv=>by
 obtain ⟨u,hu,-,bu⟩:=hu;obtain ⟨v,hv,-,bv⟩:=hv;refine QJ fun hno=> ?_;have hE:=(A9M (A1V hc hn)).1;have hall: ∀f,f<(endsL g.es).length->B (gR (endsL g.es) (2*f))=B (gR (endsL g.es) (2*f+1)):=fun f hf=>QJ fun q=>hno ⟨f,hf,rfl,rfl,q⟩;have he: ∀b c:Nat,((b:Int),(c:Int))∈endsL g.es->B b=B c:=fun b c h=>by
  obtain ⟨f,hf,e⟩:=Jk.1 h;have h2:=hE f hf;rw [Qq hf,e] at h2;have h3:=Prod.mk.inj (JX h2);rw [show b=gR (endsL g.es) (2*f) by omega,show c=gR (endsL g.es) (2*f+1) by omega];exact hall f hf
 have key: ∀k,Conn (endsL g.es) u k->B k=true:=fun k hk=>by
  induction hk with
  | refl=>exact bu
  | @step b c _ hs ih=>
   rcases hs with hs | hs
   ·rw [<-he _ _ hs]; exact ih
   ·rw [he _ _ hs]; exact ih
 rw [key v ((A6M hc hn).1 hcon u v hu hv)] at bv; cases bv
def C1t (E:Nat) (gf:Nat->Nat):inE E gf (fun _=>true)=E:=by
 unfold inE;rw [A0g (g:=fun _=>1) fun _ _=>if_pos ⟨rfl,rfl⟩,A2b]; omega
def B62 (n:Nat):B2n n (fun _=>true)=n:=by
 unfold B2n;rw [A0g (g:=fun _=>1) fun _ _=>if_pos rfl,A2b]; omega
def C1u (n:Nat) (D:Nat->Int):chA n D (fun _=>true)=sumR D n:=A0g fun _ _=>if_pos rfl
def C1v {g:G} {n w:Nat} (hn:g.n=n) (d:List Int):okS g d w=true↔B8p g w≤A80 d (setN n w)∧((setN n w).length=n->A80 d (setN n w)=B8p g w):=by
 unfold okS;rw [show g.n.toNat=n by omega];simp only [hn];by_cases h1:A80 d (setN n w)<B8p g w
 ·simp [h1]; omega
 ·by_cases h2:(setN n w).length=n
  ·by_cases h3:A80 d (setN n w)=B8p g w
   ·simp [h1,h2,h3]
   ·simp [h1,h2,h3]
  ·simp [h1,h2]; omega
def C38 {g:G} {n:Nat} (hc:checkG g=0) (hn:g.n=n) (hcon:connB g=true) (d:List Int):B7S g d=true↔BrkD (endsL g.es).length n (gR (endsL g.es)) (fun v=>d.getD v 0):=by
 have h12:=(A0h.1 hc).1;have hg:=(A9M (A1V hc hn)).2;have hp:2^n=2^n-1+1:=by have:=Nat.two_pow_pos n; omega
 unfold B7S;rw [ZX,show g.n.toNat=n by omega];constructor
 ·intro h;have key: ∀A:Nat->Bool,(∃v,v<n∧A v=true)->C5D (endsL g.es).length n (gR (endsL g.es)) A->inE (endsL g.es).length (gR (endsL g.es)) A-B2n n A+1≤chA n (fun v=>d.getD v 0) A∧((∀v,v<n->A v=true)->chA n (fun v=>d.getD v 0) A=inE (endsL g.es).length (gR (endsL g.es)) A-B2n n A+1):=fun A hA hcA=>by
   have hm:=C5O A n;have hlt:=A82 A n;obtain ⟨v,hv,av⟩:=hA;have h1:1≤A8g A n:=C7d (v:=v) (by rw [<-hm v hv]; exact av);generalize A8g A n=w at*;have hcw:=(C7c hc hn h1 hlt).2 (B7V hg hm hcA);have ho:=(C1v hn d).1 (h w (B3H.2 ⟨⟨h1,by omega⟩,hcw⟩));rw [C4m hc hn h1 hlt hcw,<-B5j] at ho;rw [B3F hg hm,B1h hm,B3G _ hm];refine ⟨ho.1,fun hall=>ho.2 (C1s.2 fun v hv=>by rw [<-hm v hv]; exact hall v hv)⟩
  refine C3x ?_ fun A hA hcA=>(key A hA hcA).1;have:=(key (fun _=>true) ⟨0,by omega,rfl⟩ (C37 hc hn hcon)).2 fun _ _=>rfl;rw [C1t,B62,C1u] at this;exact this
 ·intro hB w hw;obtain ⟨⟨h1,h2⟩,hcw⟩:=B3H.1 hw;have hlt:w<2^n:=by omega
  rw [C1v hn,C4m hc hn h1 hlt hcw,<-B5j];obtain ⟨v,hv,hb⟩:=C1p h1 hlt;refine ⟨hB.low (aW w) ⟨v,hv,decide_eq_true hb⟩,fun hl=> ?_⟩;have hall:=C1s.1 hl;have hm: ∀v,v<n->aW w v=(fun _=>true) v:=fun v hv=>hall v hv;rw [B3F hg hm,B1h hm,B3G _ hm,C1t,B62,C1u,hB.deg]
def A0M {g:G} (h:A0m g=0):checkG g=0∧connB g=true:=by
 unfold A0m at h;by_cases hc:checkG g=0
 ·rw [if_neg (by omega)] at h;by_cases hb:connB g=true
  ·exact ⟨hc,hb⟩
  ·rw [if_neg hb] at h; cases h
 ·rw [if_pos hc] at h; exact absurd h hc
def B8q (g:G) (d:List Int):Int:=if A0m g≠0 then A0m g else B31 d g.n
def C39 (g:G) (d:List Int) (hl:g.es.length≤40) (hdl:d.length<2^40):
  ACall Tryz.prog 34 [tG g,A0k d] (.tup [A0q (decide (B8q g d=0)&&B7S g d),A0j (B8q g d)]):=by
 have hJ:=B0X g hl;have hC:=A9E d g.n hdl;unfold B8q;by_cases h0:A0m g=0
 ·rw [if_neg (by omega)];obtain ⟨hc,hcon⟩:=A0M h0;rw [h0] at hJ;by_cases h1:B31 d g.n=0
  ·rw [h1] at hC ⊢;rw [show decide ((0:Int)=0)=true from rfl,VQ];have h12:=(A0h.1 hc).1;obtain ⟨n,hn⟩: ∃n:Nat,g.n=n:=⟨g.n.toNat,by omega⟩;rw [hn] at h1;obtain ⟨q1,q2,q3,q4⟩:=B5d h1;have hB:=B36 g d (C4k hc hl) h12 hl (by omega) (fun v _=>by have:=q4 v; omega);generalize B7S g d=b at*;obtain ⟨n',es⟩:=g;refine ACall.of_body Tryz.func34 rfl (by kernel_rfl) ?_;simp only [entry,Tryz.ntmps34,tG,A0k];refine zU ?_;refine zR Qv5 (zc hJ (zc hC (zc hB Qv5))) Qv5 ?_;simp [A0s,A0r,Blk.cells,ty,Tryz.results34,A0o,A0p,toT,A0d,A0b,A0c,A0a,A0j,A0q]
  ·rw [decide_eq_false h1,VW];generalize B31 d g.n=e at*;obtain ⟨n',es⟩:=g;refine ACall.of_body Tryz.func34 rfl (by kernel_rfl) ?_;simp only [entry,Tryz.ntmps34,tG,A0k];refine zU ?_;refine zR (zc @h1 Qv5) (zc hJ (zc hC Qv5)) Qv5 ?_;simp [A0s,A0r,Blk.cells,ty,Tryz.results34,A0o,A0p,toT,A0d,A0b,A0c,A0a,A0j,A0q]
 ·rw [if_pos h0,decide_eq_false h0,VW];generalize A0m g=e at*;obtain ⟨n',es⟩:=g;refine ACall.of_body Tryz.func34 rfl (by kernel_rfl) ?_;simp only [entry,Tryz.ntmps34,tG,A0k];refine zU ?_;refine zR (zc @h0 Qv5) (zc hJ Qv5) Qv5 ?_;simp [A0s,A0r,Blk.cells,ty,Tryz.results34,A0o,A0p,toT,A0d,A0b,A0c,A0a,A0j,A0q]
noncomputable def frG (g:G) (t:List Int):List (List Int):=A3q g.n.toNat (endsL g.es) t (endsL g.es).length
noncomputable def B2q (g:G):List (List Int):=A9I (frG g) (A13 g) (A13 g).length
noncomputable def B2d (g:G):List (List Int):=B0d (B2q g) (B2q g).length
def C5P {g:G} {y:List Int} (h:y∈B2q g):B8m g.n.toNat ((endsL g.es).length:Int) y:=by
 obtain ⟨t,-,q⟩:=(A9K (Qk _)).1 h;exact A8x _ _ _ _ y q
def B5k {g:G} {y:List Int}:y∈B2d g↔y∈B2q g:=(A6S (B2q g) _ (Qk _)).mem_iff
def C5Q (g:G) (hE:(endsL g.es).length≤9):(B2q g).length≤2^18:=by
 have hp9:2^(endsL g.es).length≤2^9:=Qq3 (by omega) hE;have h1:(A13 g).length≤2^9:=by
  have h1:=(A1k (A3L g (2^(endsL g.es).length))).length_eq;have h2:=A83 g (2^(endsL g.es).length);unfold A13; omega
 have h2: ∀i,(A9I (frG g) (A13 g) i).length≤i*2^9:=fun i=>by
  induction i with
  | zero=>simp [A9I]
  | succ i ih=>
   have h1:=B6z (A9I (frG g) (A13 g) i) (frG g ((A13 g).getD i [])) (frG g ((A13 g).getD i [])).length;have h2:(frG g ((A13 g).getD i [])).length≤2^9:=by have:=A8w g.n.toNat (endsL g.es) ((A13 g).getD i []) (endsL g.es).length; unfold frG; omega
   simp only [A9I];rw [Vx]; omega
 have:=h2 (A13 g).length;unfold B2q; omega
def B5l (g:G) (d:List Int) (hl:g.es.length≤40) (hdl:d.length<2^40) (hE:checkG g=0->(endsL g.es).length≤9) (hne:A0m g=0->B2q g≠[]):
  ACall Tryz.prog 35 [tG g,A0k d] (.tup [A0q (decide (B8q g d=0)&&decide (d∈B2d g)),A0j (B8q g d)]):=by
 have hJ:=A5d g hl;have hC:=C0V d g.n hdl;unfold B8q;by_cases h0:A0m g=0
 ·rw [if_neg (by omega)];obtain ⟨hc,hcon⟩:=A0M h0;rw [h0] at hJ;by_cases h1:B31 d g.n=0
  ·rw [h1] at hC ⊢;rw [show decide ((0:Int)=0)=true from rfl,VQ];have hL:=B3D g hc hl (hE hc) (frG g) (fun _=>rfl) (B2q g) rfl (hne h0);have hll:(B2d g).length<2^40:=by have:=C5Q g (hE hc); unfold B2d; rw [A5A]; omega
   have hrl: ∀x,x∈B2d g->x.length<2^40:=fun x hx=>by
    have:=(C5P (B5k.1 hx)).1;have:=(A0h.1 hc).1; omega
   have hH:=A78 (B2d g) d hll hrl hdl;have hL2:ACall Tryz.prog 69 [tG g] (A05 (B2d g)):=hL;clear hL hne hll hrl;generalize B2d g=X at*;generalize decide (d∈X)=b at*;obtain ⟨n',es⟩:=g;refine ACall.of_body Tryz.func35 rfl (by kernel_rfl) ?_;simp only [entry,Tryz.ntmps35,tG,A0k];refine zU ?_;refine zR Qv5 (zc hJ (zc hC (zc hL2 (zc hH Qv5)))) Qv5 ?_;simp [A0s,A0r,Blk.cells,ty,Tryz.results35,A0o,A0p,toT,A0d,A0b,A0c,A0a,A0j,A0q]
  ·rw [decide_eq_false h1,VW];generalize B31 d g.n=e at*;obtain ⟨n',es⟩:=g;refine ACall.of_body Tryz.func35 rfl (by kernel_rfl) ?_;simp only [entry,Tryz.ntmps35,tG,A0k];refine zU ?_;refine zR (zc @h1 Qv5) (zc hJ (zc hC Qv5)) Qv5 ?_;simp [A0s,A0r,Blk.cells,ty,Tryz.results35,A0o,A0p,toT,A0d,A0b,A0c,A0a,A0j,A0q]
 ·rw [if_pos h0,decide_eq_false h0,VW];generalize A0m g=e at*;obtain ⟨n',es⟩:=g;refine ACall.of_body Tryz.func35 rfl (by kernel_rfl) ?_;simp only [entry,Tryz.ntmps35,tG,A0k];refine zU ?_;refine zR (zc @h0 Qv5) (zc hJ Qv5) Qv5 ?_;simp [A0s,A0r,Blk.cells,ty,Tryz.results35,A0o,A0p,toT,A0d,A0b,A0c,A0a,A0j,A0q]
def C1w (g:G) (hl:g.es.length≤40) (hE:checkG g=0->(endsL g.es).length≤9) (hne:A0m g=0->B2q g≠[]):
  ACall Tryz.prog 36 [tG g] (.tup [A05 (if A0m g≠0 then [] else B2d g),A0j (A0m g)]):=by
 have hJ:=A5d g hl;by_cases h0:A0m g=0
 ·rw [if_neg (by omega)];obtain ⟨hc,hcon⟩:=A0M h0;have hL:=B3D g hc hl (hE hc) (frG g) (fun _=>rfl) (B2q g) rfl (hne h0);rw [h0] at hJ ⊢;have hL2:ACall Tryz.prog 69 [tG g] (A05 (B2d g)):=hL;clear hL hne;generalize B2d g=X at*;obtain ⟨n',es⟩:=g;refine ACall.of_body Tryz.func36 rfl (by kernel_rfl) ?_;simp only [entry,Tryz.ntmps36,tG];refine zU ?_;refine zR Qv5 (zc hJ (zc hL2 Qv5)) Qv5 ?_;simp [A0s,A0r,Blk.cells,ty,Tryz.results36,A0o,A0p,toT,A0d,A0b,A0c,A0a,A0j,A05]
 ·rw [if_pos h0];generalize A0m g=e at*;obtain ⟨n',es⟩:=g;refine ACall.of_body Tryz.func36 rfl (by kernel_rfl) ?_;simp only [entry,Tryz.ntmps36,tG];refine zU ?_;refine zR (zc @h0 Qv5) (zc hJ Qv5) Qv5 ?_;simp [A0s,A0r,Blk.cells,ty,Tryz.results36,A0o,A0p,toT,A0d,A0b,A0c,A0a,A0j,A05,A0n]
def C1x {a:List (List Int)} {x y:List Int}:y∈B7F a x↔y∈a∨y=x:=by
 unfold B7F;split
 ·rename_i h; exact ⟨.inl,fun q=>q.elim id fun e=>e▸h⟩
 ·rw [XZ,XQ]
def C7e {a:List (List Int)} {d:List Int} {p:Int×Int} {y:List Int}:y∈kxA a d p 2↔y∈a∨ ∃k,k<2∧y=bump d (vK p k):=by
 simp only [kxA];rw [C1x,C1x];constructor
 ·rintro ((q | q) | q)
  ·exact .inl q
  ·exact .inr ⟨0,by omega,q⟩
  ·exact .inr ⟨1,by omega,q⟩
 ·rintro (q | ⟨k,hk,q⟩)
  ·exact .inl (.inl q)
  ·have:k=0∨k=1:=by omega
   rcases this with rfl | rfl
   ·exact .inl (.inr q)
   ·exact .inr q
def C4n {O:List (List Int)} {p:Int×Int} {y:List Int}: ∀{i},i≤O.length->(y∈nxA O p i↔ ∃d,d∈O.take i∧ ∃k,k<2∧y=bump d (vK p k))
 | 0,_=>by simp [nxA]
 | i+1,h=>by
  have ih:= @C4n O p y i (by omega);have e:O.getD i []=O[i]:=by rw [Qz,Qq (by omega)]; rfl
  simp only [nxA];rw [C7e,ih,Xy (by omega),e];constructor
  ·rintro (⟨d,hd,q⟩ | q)
   ·exact ⟨d,Qx7 _ hd,q⟩
   ·exact ⟨_,List.mem_append_right _ (XQ.2 rfl),q⟩
  ·rintro ⟨d,hd,q⟩;rcases XZ.1 hd with hd | hd
   ·exact .inl ⟨d,hd,q⟩
   ·rw [XQ] at hd; exact .inr (hd▸q)
def C7f (L:List (Int×Int)) (e k:Nat) (hk:k<2):vK (L.getD e (0,0)) k=gR L (2*e+k):=by
 have:k=0∨k=1:=by omega
 unfold gR atL vK;rcases this with rfl | rfl
 ·rw [if_pos rfl,if_pos (by omega),show (2*e+0) / 2=e by omega]
 ·rw [if_neg (by omega),if_neg (by omega),show (2*e+1) / 2=e by omega]
def B63 {d:List Int} {v:Nat} (hv:v<d.length) (w:Nat):(bump d v).getD w 0=d.getD w 0+if v=w then 1 else 0:=by
 unfold bump;rw [Qz,Qq0];split
 ·rename_i h; subst h; simp [hv]
 ·rw [<-Qz]; omega
def C1y (L:List (Int×Int)) (t:List Int) (c:Nat->Nat) (e v:Nat):Int:=sumR (fun f=>if (f:Int)∉t∧gR L (c f)=v then 1 else 0) e
def A6T {n:Nat} {L:List (Int×Int)} {t:List Int} (hg: ∀x,x<2*L.length->gR L x<n) {x:List Int}: ∀{e},e≤L.length->(x∈A3q n L t e↔x.length=n∧ ∃c:Nat->Nat,(∀f,f<e->c f=2*f∨c f=2*f+1)∧ ∀v,v<n->x.getD v 0=C1y L t c e v)
 | 0,_=>by
  rw [A3q,XQ];constructor
  ·rintro rfl;refine ⟨by simp,fun f=>2*f,fun f hf=>absurd hf (Nat.not_lt_zero _),fun v hv=> ?_⟩;rw [Qz,Qq2,if_pos hv]; rfl
  ·rintro ⟨hl,c,-,h⟩;refine VJ (by simp [hl]) fun i h1 h2=> ?_;have:=h i (by omega);rw [Qz,Qq h1] at this;simp only [Option.getD_some] at this;rw [this]; simp [C1y,sumR]
 | e +1,h=>by
  have ih:=fun y=> @A6T n L t hg y e (by omega);simp only [A3q];by_cases ht:(e:Int)∈t
  ·rw [if_pos ht,ih];refine and_congr_right fun hl=> ?_;constructor
   ·rintro ⟨c,hc,hs⟩;refine ⟨fun f=>if f=e then 2*f else c f,fun f hf=> ?_,fun v hv=> ?_⟩
    ·by_cases q:f=e
     ·simp [q]
     ·simp only [if_neg q]; exact hc f (by omega)
    ·rw [hs v hv];unfold C1y;rw [sumR,if_neg (fun q=>q.1 ht),Int.add_zero];exact A0g fun f hf=>by simp only [if_neg (show f≠e by omega)]
   ·rintro ⟨c,hc,hs⟩;refine ⟨c,fun f hf=>hc f (by omega),fun v hv=> ?_⟩;rw [hs v hv];unfold C1y;rw [sumR,if_neg (fun q=>q.1 ht),Int.add_zero]
  ·rw [if_neg ht,C4n (Qk _),Zz];constructor
   ·rintro ⟨d,hd,k,hk,rfl⟩;obtain ⟨hl,c,hc,hs⟩:=(ih d).1 hd;rw [C7f L e k hk];refine ⟨by rw [B1R]; exact hl,fun f=>if f=e then 2*e+k else c f,fun f hf=> ?_,fun v hv=> ?_⟩
    ·by_cases q:f=e
     ·simp only [if_pos q]; omega
     ·simp only [if_neg q]; exact hc f (by omega)
    ·have hv2:=hg (2*e+k) (by omega);rw [B63 (by omega),hs v hv];unfold C1y;rw [sumR];congr 1
     ·exact A0g fun f hf=>by simp only [if_neg (show f≠e by omega)]
     ·simp [ht]
   ·rintro ⟨hl,c,hc,hs⟩;have hce:=hc e (by omega);obtain ⟨k,hk,ek⟩: ∃k,k<2∧c e=2*e+k:=by
     rcases hce with q | q
     ·exact ⟨0,by omega,by omega⟩
     ·exact ⟨1,by omega,by omega⟩
    have hv2:=hg (2*e+k) (by omega);let d:List Int:=(List.range n).map fun v=>C1y L t c e v;have hdl:d.length=n:=by simp [d]
    have hdv: ∀v,v<n->d.getD v 0=C1y L t c e v:=fun v hv=>by
     simp [d,Qz,hv]
    refine ⟨d,(ih d).2 ⟨hdl,c,fun f hf=>hc f (by omega),hdv⟩,k,hk,?_⟩;rw [C7f L e k hk];refine VJ (by rw [B1R,hdl,hl]) fun i h1 h2=> ?_;have a1:=hs i (by omega);have a2:=B63 (d:=d) (v:=gR L (2*e+k)) (by omega) i;rw [Qz,Qq h1,Option.getD_some] at a1;rw [Qz,Qq h2,Option.getD_some,hdv i (by omega)] at a2;rw [a1,a2];unfold C1y;rw [sumR,ek];congr 1;simp [ht]
def C4o (L:List (Int×Int)) (t:List Int) (c:Nat->Nat) (v:Nat):C1y L t c L.length v=C3y L.length (gR L) c (A3u t) v:=by
 unfold C1y C3y;refine A0g fun f hf=> ?_;unfold A3u;by_cases h:(f:Int)∈t
 ·rw [if_neg fun q=>q.1 h,if_neg fun q=>by rw [decide_eq_true h] at q; cases q.1]
 ·by_cases h2:gR L (c f)=v
  ·rw [if_pos ⟨h,h2⟩,if_pos ⟨decide_eq_false h,h2⟩]
  ·rw [if_neg fun q=>h2 q.2,if_neg fun q=>h2 q.2]
def C3A (t a b:List Int):A1L (t++a) (t++b)=A1L a b:=by
 induction t with
 | nil=>rfl
 | cons x t ih=>show (if x=x then A1L (t++a) (t++b) else decide (x<x))=_; rw [if_pos rfl,ih]
def A5l {n:Nat}: ∀{k:Nat} {t:List Nat} {e:Nat},acyc (pkN L t)->(A18 n L k t e).Pairwise fun a b=>A1L (zI b) (zI a)=false
 | 0,t,e,ha=>by unfold A18; split<;>simp
 | k +1,t,e,ha=>by
  unfold A18;split
  ·simp
  ·rename_i hn;rw [Qx9];refine ⟨?_,A5l ha,fun A hA B hB=> ?_⟩
   ·split
    ·rename_i h; exact A5l h
    ·simp
   ·split at hA
    ·rename_i h;obtain ⟨s,rfl,-⟩:=(A4c h).1 hA;obtain ⟨s2,rfl,-,h2,h3,-⟩:=(A4c ha).1 hB;have e1:zI (t++[e]++s)=zI t++((e:Int)::zI s):=by simp [zI]
     have e2:zI (t++s2)=zI t++zI s2:=by simp [zI]
     rw [e1,e2];refine A1J _ _ ?_;rw [C3A];cases s2 with
     | nil=>rw [WX] at h3; exact absurd h3 hn
     | cons x s2=>
      have:=(h2 x (by simp)).1;show (if (e:Int)=(x:Int) then _ else decide ((e:Int)<(x:Int)))=true;rw [if_neg (by omega),decide_eq_true (by omega)]
    ·cases hA
def A2k {n:Nat} {T:List Nat}:T∈allT n L↔T.Pairwise (·< ·)∧(∀x,x∈T->x<L.length)∧T.length+1=n∧acyc (pkN L T):=by
 unfold allT;rw [A4c (show acyc (pkN L []) from A2P)];constructor
 ·rintro ⟨s,rfl,h1,h2,h3,h4⟩;exact ⟨h1,fun x hx=>by have:=h2 x hx; omega,h3,h4⟩
 ·rintro ⟨h1,h2,h3,h4⟩;exact ⟨T,rfl,h1,fun x hx=>by have:=h2 x hx; omega,h3,h4⟩
def A6U {n:Nat} (h0:0<n) (hL:InN n L) {T:List Nat} (hT: ∀x,x∈T->x<L.length):treeB n L (zI T)=true↔T.length+1=n∧acyc (pkN L T):=by
 have hpk:pkN L T=pkL L (zI T):=C08 L T;have hin:=A98 hL (t:=zI T) fun x hx=>by
  obtain ⟨a,ha,rfl⟩:=QY.1 hx;have:=hT a ha; omega
 have hn:=(A4v (pkL L (zI T)) hin).2;rw [hpk,hn];unfold treeB;rw [decide_eq_true_eq,A3n,A2z,A3n];omega
def C1z {n:Nat} {t u:List Int} (h:t.Perm u):treeB n L t=treeB n L u:=by
 have hl:=h.length_eq;have hc: ∀x y,Conn (pkL L t) x y↔Conn (pkL L u) x y:=fun x y=>by
  have hm: ∀p,p∈pkL L t↔p∈pkL L u:=fun p=>(h.map _).mem_iff;exact ⟨Conn.mono fun p hp=>(hm p).1 hp,Conn.mono fun p hp=>(hm p).2 hp⟩
 unfold treeB;rw [hl,A2v fun x y _ _=>hc x y]
def C5R {E w w':Nat} (h1:w<2^E) (h2:w'<2^E) (h:setN E w=setN E w'):w=w':=by
 refine Nat.eq_of_testBit_eq fun i=> ?_;by_cases hi:i<E
 ·have key: ∀v,i∈setN E v↔v.testBit i=true:=fun v=>by
   unfold setN;rw [ZV,Xk,decide_eq_true_eq,A4e];exact ⟨fun q=>q.2,fun q=>⟨hi,q⟩⟩
  have:=key w;rw [h,key w'] at this;rw [Qj2]; exact this.symm
 ·have hp:2^E≤2^i:=Qq3 (by omega) (by omega);rw [Qz3 (by omega),Qz3 (by omega)]
def C11: ∀{a b:List Nat},zI a=zI b->a=b
 | [],[],_=>rfl
 | [],_::_,h=>by simp [zI] at h
 | _::_,[],h=>by simp [zI] at h
 | x::a,y::b,h=>by
  have h1:((x:Int)::zI a)=(y:Int)::zI b:=h;injection h1 with h2 h3;rw [C11 h3,Int.ofNat.inj h2]
def B1i (g:G): ∀m,m≤2^(endsL g.es).length->(A3L g m).Nodup
 | 0,_=>by simp [A3L]
 | m+1,h=>by
  have ih:=B1i g m (by omega);unfold A3L;split
  ·rw [YW];refine ⟨ih,by simp,fun a ha b hb e=> ?_⟩;rw [XQ] at hb;subst e;obtain ⟨w,hw,q,-⟩:=A6Q.1 ha;have:=C5R (by omega) (by omega) (C11 (hb.symm.trans q));omega
  ·exact ih
def C7g {E:Nat} {T:List Nat} (hs:T.Pairwise (·< ·)) (hT: ∀x,x∈T->x<E): ∃w,w<2^E∧T=setN E w:=by
 refine ⟨A8g (fun v=>decide (v∈T)) E,A82 _ _,?_⟩;have hs2:(setN E (A8g (fun v=>decide (v∈T)) E)).Pairwise (·< ·):=List.pairwise_lt_range.filter _;refine Qj5 (le:=(·< ·)) (fun a b _ _ q1 q2=>by omega) hs hs2 ?_;refine (WZ (hs.imp fun h=>Qx5 h) (hs2.imp fun h=>Qx5 h)).2 fun x=> ?_;unfold setN;rw [ZV,Xk,decide_eq_true_eq,A4e];constructor
 ·intro hx;have:=hT x hx;exact ⟨this,by rw [A2X _ _ _ this]; exact decide_eq_true hx⟩
 ·rintro ⟨hx,h⟩;rw [A2X _ _ _ hx] at h;exact of_decide_eq_true h
def B2e {g:G} (hc:checkG g=0):tI (treesG g)=A13 g:=by
 have h12:=(A0h.1 hc).1;obtain ⟨n,hn⟩: ∃n:Nat,g.n=n:=⟨g.n.toNat,by omega⟩;have hIn:InN n (endsL g.es):=fun p hp=>by have:=A1V hc hn p hp; omega
 have htI:tI (treesG g)=(treesG g).map zI:=rfl;unfold A13;have hnd:(allT n (endsL g.es)).Nodup:=A6c (show acyc (pkN (endsL g.es) []) from A2P);have hgt:treesG g=allT n (endsL g.es):=by unfold treesG; rw [show g.n.toNat=n by omega]
 rw [htI,hgt];refine A4d ?_ ?_
 ·rw [JQ];exact A5l (show acyc (pkN (endsL g.es) []) from A2P)
 ·refine (WZ (JQ.2 (hnd.imp fun {a b} hab e=>hab (C11 e))) (B1i g _ (Qk _))).2 fun x=> ?_;rw [QY,A6Q];constructor
  ·rintro ⟨T,hT,rfl⟩;obtain ⟨h1,h2,h3,h4⟩:=A2k.1 hT;obtain ⟨w,hw,rfl⟩:=C7g h1 h2;exact ⟨w,hw,rfl,by rw [show g.n.toNat=n by omega]; exact (A6U (by omega) hIn h2).2 ⟨h3,h4⟩⟩
  ·rintro ⟨w,hw,rfl,ht⟩;have hT: ∀x,x∈setN (endsL g.es).length w->x<(endsL g.es).length:=fun x hx=>by
    unfold setN at hx;exact Xk.1 (ZV.1 hx).1
   rw [show g.n.toNat=n by omega] at ht;have h2:=(A6U (by omega) hIn hT).1 ht;exact ⟨_,A2k.2 ⟨List.pairwise_lt_range.filter _,hT,h2.1,h2.2⟩,rfl⟩
def B3R (g:G):R:=⟨g.n,g.es,A1d (endsL g.es) g.n.toNat (2*(endsL g.es).length)⟩
def C5S (L:List (Int×Int)) (v:Int) (k:Nat):(ownL L v k).Nodup:=by
 unfold ownL;exact JQ.2 ((List.pairwise_lt_range.filter _).imp fun {a b} h e=>by have:a=b:=Int.ofNat.inj e; omega)
def A7D {g:G} (h:A0m g=0):ROk (B3R g):=by
 obtain ⟨hc,hcon⟩:=A0M h;have h12:=(A0h.1 hc).1;refine ⟨hc,hcon,?_,fun i l hl=> ?_⟩
 ·show ((A1d (endsL g.es) g.n.toNat (2*(endsL g.es).length)).length:Int)=g.n;rw [A0A]; omega
 ·have hl:(A1d (endsL g.es) g.n.toNat (2*(endsL g.es).length))[i]? =some l:=hl;have hi:i<g.n.toNat:=by have:=(Qx.1 hl).1; rwa [A0A] at this
  rw [A3j hi] at hl;cases hl;exact ⟨C5S _ _ _,fun _ h=>h,fun _ h=>h,rfl,.inr rfl⟩
def B3I {n:Nat} {g:Nat->Nat} (h0:0<n) (hL:InN n L) (hg:B0a L g) {t:List Int} (ht: ∀x,x∈t->0≤x∧x<(L.length:Int)) (hb:treeB n L t=true): ∃T,T∈allT n L∧A3u (zI T)=A3u t:=by
 have hnd:t.Nodup:=by
  unfold treeB at hb;obtain ⟨hl,hc⟩:=of_decide_eq_true hb;have hac:acyc (pkL L t):=(A4v _ (A98 hL ht)).2.2 (by rw [hc,A2z]; omega);exact A79 hg hac ht
 let T:=setN L.length (A8g (A3u t) L.length);have hTs:T.Pairwise (·< ·):=List.pairwise_lt_range.filter _;have hTm: ∀x:Nat,x∈T↔x<L.length∧(x:Int)∈t:=fun x=>by
  show x∈(List.range L.length).filter _↔_;rw [ZV,Xk,decide_eq_true_eq,A4e];constructor
  ·rintro ⟨h,q⟩;rw [A2X _ _ _ h] at q;exact ⟨h,of_decide_eq_true q⟩
  ·rintro ⟨h,q⟩;exact ⟨h,by rw [A2X _ _ _ h]; exact decide_eq_true q⟩
 have hzm: ∀x,x∈zI T↔x∈t:=fun x=>by
  constructor
  ·intro h;obtain ⟨a,ha,rfl⟩:=QY.1 h;exact ((hTm a).1 ha).2
  ·intro h;have:=ht x h;refine QY.2 ⟨x.toNat,(hTm _).2 ⟨by omega,?_⟩,by show ((x.toNat:Nat):Int)=x; omega⟩;rw [show ((x.toNat:Nat):Int)=x by omega]; exact h
 have hp:(zI T).Perm t:=(WZ (JQ.2 (hTs.imp fun {a b} h e=>by have:a=b:=Int.ofNat.inj e; omega)) hnd).2 hzm;have hlt: ∀x,x∈T->x<L.length:=fun x hx=>((hTm x).1 hx).1;have hb2:treeB n L (zI T)=true:=by rw [C1z hp]; exact hb
 have h3:=(A6U h0 hL hlt).1 hb2;refine ⟨T,A2k.2 ⟨hTs,hlt,h3.1,h3.2⟩,?_⟩;funext e;unfold A3u;rw [Qj2,decide_eq_true_eq,decide_eq_true_eq];exact hzm _
def A20 {r:R} (hr:ROk r) {T:List Nat} (hT:T∈treesG r.g):(∀x,x∈zI T->0≤x∧x<((endsL r.es).length:Int))∧treeB r.n.toNat (endsL r.es) (zI T)=true:=by
 obtain ⟨h1,h2,h3,h4⟩:=A2k.1 hT;exact ⟨fun x hx=>by obtain ⟨a,ha,rfl⟩:=QY.1 hx; have:=h2 a ha; have e:(endsL r.g.es).length=(endsL r.es).length:=rfl; omega,(A6U (A3s hr) (A9D hr) h2).2 ⟨h3,h4⟩⟩
def B64 {r:R} (hr:ROk r) {M:Nat->Nat->Int} (hM:Mult r.n.toNat M) (hJ:Joins (endsL r.es).length r.n.toNat (gR (endsL r.es)) M) {h0:Nat} (hh:h0<2*(endsL r.es).length) {D:Nat->Int} (hD:BrkD (endsL r.es).length r.n.toNat (gR (endsL r.es)) D):
  ∃T p,T∈treesG r.g∧TourP (2*(endsL r.es).length) (A09 (sR (endsL r.es) r.ar) (A3u (zI T))) h0 p∧ ∀v,v<r.n.toNat->A5f (endsL r.es).length (gR (endsL r.es)) p (A3u (zI T)) v=D v:=by
 have hk: ∀x,x<2*(endsL r.es).length->gR (endsL r.es) (sR (endsL r.es) r.ar x)=gR (endsL r.es) x:=fun x hx=>(A2C hr).keep x hx;obtain ⟨t,p,h1,h2,h3,h4⟩:=C3v (q:=0) hM (A3s hr) (A2R hr) (A2C hr).lt (B1V hr) hJ hk (fun t ht hb=>B1W hr ht hb hh) hD;obtain ⟨T,hT,e⟩:=B3I (A3s hr) (A9D hr) (A2R hr) h1 h2;exact ⟨T,p,hT,by rw [e]; exact h3,by rw [e]; exact h4⟩
def B2f {r:R} (hr:ROk r) {M:Nat->Nat->Int} (hM:Mult r.n.toNat M) (hJ:Joins (endsL r.es).length r.n.toNat (gR (endsL r.es)) M): ∃T,T∈treesG r.g:=by
 have hq:=A3s hr;have hA:=B1V hr;have hR:=C4g hM hq (A2C hr).lt hA hJ;obtain ⟨R0,hR0⟩:=B0Y hR hM;have hp: ∀v,v<r.n.toNat->v≠0->0<(arN r v).length:=fun v hv hn=>by rw [<-C0F (g:=gR (endsL r.es))]; exact hR.pos v hv hn
 have hH: ∀v,v<r.n.toNat->v≠0->A7V (arN r) R0 v<2*(endsL r.es).length∧gR (endsL r.es) (A7V (arN r) R0 v)=v:=fun v hv hn=>A8v hA R0 hv (hp v hv hn);have ht:=B0V hq (A2R hr) hH ((A6J hp).1 hR0);have hrange: ∀y,y∈A4w r.n.toNat 0 (A7V (arN r) R0)->0≤y∧y<((endsL r.es).length:Int):=fun y hy=>by
  obtain ⟨v,hv,hn,rfl⟩:=A5g.1 hy;have:=(hH v hv hn).1;omega
 obtain ⟨T,hT,-⟩:=B3I hq (A9D hr) (A2R hr) hrange ht;exact ⟨T,hT⟩
def BrkD.congr {E n:Nat} {g:Nat->Nat} {D D':Nat->Int} (h:BrkD E n g D) (he: ∀v,v<n->D v=D' v):BrkD E n g D':=by
 refine ⟨?_,fun A hA=> ?_⟩
 ·rw [<-A0g he]; exact h.deg
 ·have h1:=h.low A hA;have e:sumR (fun v=>if A v=true then D v else 0) n=sumR (fun v=>if A v=true then D' v else 0) n:=A0g fun v hv=>by rw [he v hv]
  rw [e] at h1; exact h1
def A6V {g:G} (h:A0m g=0):Mult g.n.toNat (mulE g.es)∧Joins (endsL g.es).length g.n.toNat (gR (endsL g.es)) (mulE g.es):=by
 obtain ⟨hc,hcon⟩:=A0M h;have h12:=(A0h.1 hc).1;exact ⟨(C5t hc (n:=g.n.toNat) (by omega) hcon).2,C0K (A7D h)⟩
def C7h {g:G} (h:A0m g=0):B2q g≠[]:=by
 obtain ⟨hM,hJ⟩:=A6V h;obtain ⟨T,hT⟩:=B2f (A7D h) hM hJ;have hT2:T∈treesG g:=hT;obtain ⟨hc,hcon⟩:=A0M h;have hz:zI T∈A13 g:=by rw [<-B2e hc]; exact QY.2 ⟨T,hT2,rfl⟩
 have hg: ∀x,x<2*(endsL g.es).length->gR (endsL g.es) x<g.n.toNat:=(A2C (A7D h)).lt;let x:List Int:=(List.range g.n.toNat).map fun v=>C1y (endsL g.es) (zI T) (fun f=>2*f) (endsL g.es).length v
 have hx:x∈frG g (zI T):=(A6T hg (Qk _)).2 ⟨by simp [x],fun f=>2*f,fun f _=> .inl rfl,fun v hv=>by
  simp [x,Qz,hv]⟩
 have:x∈B2q g:=(A9K (Qk _)).2 ⟨zI T,by rw [Zz]; exact hz,hx⟩;intro e; rw [e] at this; cases this
def B5m {g:G} (h:A0m g=0) {x:List Int}:x∈B2q g↔x.length=g.n.toNat∧BrkD (endsL g.es).length g.n.toNat (gR (endsL g.es)) (fun v=>x.getD v 0):=by
 obtain ⟨hM,hJ⟩:=A6V h;obtain ⟨hc,hcon⟩:=A0M h;have hr:=A7D h;have hg:=(A2C hr).lt;have hg2: ∀x,x<2*(endsL g.es).length->gR (endsL g.es) x<g.n.toNat:=hg;unfold B2q;rw [A9K (Qk _),Zz,<-B2e hc];constructor
 ·rintro ⟨t,ht,hx⟩;obtain ⟨T,hT,rfl⟩:=QY.1 ht;obtain ⟨hl,c,hcc,hs⟩:=(A6T hg2 (Qk _)).1 hx;obtain ⟨t1,t2⟩:=A20 hr hT;have hS:=A5i hr t1 t2;have hB:BrkD (endsL g.es).length g.n.toNat (gR (endsL g.es)) (C3y (endsL g.es).length (gR (endsL g.es)) c (A3u (zI T))):=C0J hcc hg2 hS;exact ⟨hl,hB.congr fun v hv=>by rw [<-C4o]; exact (hs v hv).symm⟩
 ·rintro ⟨hl,hD⟩;by_cases hE:(endsL g.es).length=0
  ·have h12:=(A0h.1 hc).1;have hn1:g.n.toNat=1:=by
    refine QJ fun hne=> ?_;have:=(A6M hc (n:=g.n.toNat) (by omega)).1 hcon 0 1 (by omega) (by omega);rw [ZY.1 hE,A6H] at this;cases this
   have hd:=hD.deg;rw [hn1,hE] at hd;have hd0:x.getD 0 0=0:=by simp only [sumR] at hd; omega
   refine ⟨zI [],QY.2 ⟨[],?_,rfl⟩,(A6T hg2 (Qk _)).2 ⟨hl,fun f=>2*f,fun f _=> .inl rfl,fun v hv=> ?_⟩⟩
   ·unfold treesG;exact A2k.2 ⟨.nil,fun x hx=>(by cases hx),by rw [hn1]; rfl,A2P⟩
   ·rw [hE,show v=0 by omega]; exact hd0
  ·obtain ⟨T,p,hT,-,hs⟩:=B64 hr hM hJ (h0:=0) (by show 0<2*(endsL g.es).length; omega) hD;refine ⟨zI T,QY.2 ⟨T,hT,rfl⟩,(A6T hg2 (Qk _)).2 ⟨hl,A93 p,fun f _=> ?_,fun v hv=> ?_⟩⟩
   ·unfold A93; split
    ·exact .inl rfl
    ·exact .inr rfl
   ·rw [C4o]; exact (hs v hv).symm
end Go.Proofs.YtdbdfkohpjefjaaGreat
