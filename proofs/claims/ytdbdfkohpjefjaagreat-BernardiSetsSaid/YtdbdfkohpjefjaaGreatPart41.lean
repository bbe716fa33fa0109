/- A part of the proof. -/
import Derived.Test.YtdbdfkohpjefjaaGreatPart38
import Derived.Test.YtdbdfkohpjefjaaGreatPart40
set_option linter.all false
set_option maxHeartbeats 4000000
set_option maxRecDepth 100000
namespace Go.Proofs.YtdbdfkohpjefjaaGreat
open Go.Sp
set_option maxHeartbeats 2000000
def pW (w:Nat) (v:Int):Bool:=decide (B0V w v.toNat=1)
def aW (w:Nat) (v:Nat):Bool:=decide (B0V w v=1)
theorem A9T (n w:Nat):zI (setN n w)=inL (pW w) n:=by
 unfold zI setN inL;rw [List.filter_map];congr 1
theorem B8V {n w:Nat} (h1:1≤w) (h2:w<2^n): ∃v,v<n∧B0V w v=1:=by
 refine ZV fun hno=> ?_;have:w=0:=Nat.eq_of_testBit_eq fun i=>by
  rw [Nat.zero_testBit];by_cases hi:i<n
  ·by_cases hb:w.testBit i=true
   ·exact absurd ⟨i,hi,(A6q w i).2 hb⟩ hno
   ·simpa using hb
  ·exact Qx1 (ZX h2 (Vy (by omega) (by omega)))
 omega
theorem B8W {n w:Nat} (h1:1≤w) (h2:w<2^n):inL (pW w) n≠[]:=by
 obtain ⟨v,hv,hb⟩:=B8V h1 h2;intro e;have:(v:Int)∈inL (pW w) n:=B05.2 ⟨⟨by omega,by omega⟩,by unfold pW; rw [Int.toNat_natCast]; exact decide_eq_true hb⟩;rw [e] at this; cases this
theorem B8X {g:G} (hc:checkG g=0) (hl:g.es.length≤40):IndOk g:=by
 have hn:g.n=(g.n.toNat:Int):=by have:=(A0j.1 hc).1; omega
 refine ⟨fun w h1 h2=> ?_,fun w h1 h2=> ?_,fun w h1 h2=> ?_⟩
 all_goals have D:=(B3i hc hn (pW w)).2.2.2.2 (B8W h1 h2)
 ·rw [A9T]; exact D.1
 ·unfold indW; rw [A9T]; exact D.2.1
 ·unfold indW; rw [A9T]; have:=D.2.2.1; omega
theorem B35 {L:List (Int×Int)} {n:Nat} (h: ∀p,p∈L->(0≤p.1∧p.1<n)∧(0≤p.2∧p.2<n)):B3v L (gR L)∧ ∀x,x<2*L.length->gR L x<n:=by
 refine ⟨fun k hk=> ?_,fun x hx=> ?_⟩
 ·have hp:=h _ (Xv hk);rw [Qq hk];unfold gR atL;rw [if_pos (by omega),if_neg (by omega),show (2*k) / 2=k by omega,show (2*k+1) / 2=k by omega,Qz,Qq hk,Option.getD_some];refine congrArg some (Prod.ext ?_ ?_)
  ·show L[k].1=((L[k].1.toNat:Nat):Int); omega
  ·show L[k].2=((L[k].2.toNat:Nat):Int); omega
 ·have hk:x / 2<L.length:=by omega
  have hp:=h _ (Xv hk);unfold gR atL;rw [Qz,Qq hk,Option.getD_some];split<;>omega
theorem A9U (F:Nat->Int): ∀n,sumR F (n+1)=F 0+sumR (fun i=>F (i+1)) n
 | 0=>by simp [sumR]
 | n+1=>by
  have h:=A9U F n;show sumR F (n+1)+F (n+1)=F 0+(sumR (fun i=>F (i+1)) n+F (n+1));omega
theorem B2l (q:Int->Bool): ∀L:List (Int×Int),A4g q L=sumR (fun e=>if q (L.getD e (0,0)).1=true∧q (L.getD e (0,0)).2=true then 1 else 0) L.length
 | []=>rfl
 | p::L=>by
  have ih:=B2l q L;rw [A4g,ih,List.length_cons,A9U];rfl
theorem B8Y (d:List Int) (w:Nat): ∀n,chA n (fun v=>d.getD v 0) (aW w)=A5j d (setN n w)
 | 0=>rfl
 | n+1=>by
  have h:=B8Y d w n;unfold chA at h ⊢;rw [sumR,h,A4D];unfold aW A5j;by_cases hb:B0V w n=1
  ·rw [if_pos hb,if_pos (decide_eq_true hb)]; simp
  ·rw [if_neg hb,if_neg (by simpa using hb)]; simp
theorem B4C (w:Nat): ∀n,C2H n (aW w)=(setN n w).length
 | 0=>rfl
 | n+1=>by
  have h:=B4C w n;unfold C2H at h ⊢;rw [sumR,h,A4D];unfold aW;by_cases hb:B0V w n=1
  ·rw [if_pos hb,if_pos (decide_eq_true hb)]; simp
  ·rw [if_neg hb,if_neg (by simpa using hb)]; simp
section
variable {g:G} {n w:Nat}
theorem C5j (hc:checkG g=0) (hn:g.n=n) (h1:1≤w) (h2:w<2^n):indW g w=⟨(inL (pW w) n).length,(g.es.filter (A3w (A2R (inL (pW w) n)))).map (B3e (A2R (inL (pW w) n)))⟩:=by
 obtain ⟨q1,q2,q3⟩:=A0j.1 hc;have hF:B3f (A2R (inL (pW w) n)):=fun u v hu hv huv=>A82 (A6J _ _) hu hv huv;have D:=(B3i hc hn (pW w)).2.2.2.2 (B8W h1 h2);unfold indW;rw [show g.n.toNat=n by omega,A9T];unfold B5z;rw [if_neg (by rw [D.1]; simp),B4k hF (fun x hx=>by have:=q2 x hx; unfold okE at this; omega) q3]
theorem C4r (hc:checkG g=0) (hn:g.n=n) (h1:1≤w) (h2:w<2^n):checkG (indW g w)=0:=by
 have D:=(B3i hc hn (pW w)).2.2.2.2 (B8W h1 h2);unfold indW;rw [show g.n.toNat=n by omega,A9T]; exact D.2.1
theorem C1D {v:Nat}:0≤A2R (inL (pW w) n) (v:Int)↔v<n∧aW w v=true:=by
 rw [A73,B05];unfold pW aW;rw [Int.toNat_natCast];constructor
 ·rintro ⟨q,h⟩; exact ⟨by omega,h⟩
 ·rintro ⟨q,h⟩; exact ⟨⟨by omega,by omega⟩,h⟩
theorem C4s (hc:checkG g=0) (hn:g.n=n) (h1:1≤w) (h2:w<2^n) (hcon:B47 g w=true):B2v g w=inE (endsL g.es).length (gR (endsL g.es)) (aW w)-C2H n (aW w)+1:=by
 have hk:=C4r hc hn h1 h2;have he:=C5j hc hn h1 h2;have hr:=A2z hc hn;have hl:(setN n w).length=(inL (pW w) n).length:=by rw [<-A9T,A2d]
 unfold B2v;unfold B47 connB at hcon;rw [he] at hk hcon ⊢;rw [C0y hk rfl];have hp:=of_decide_eq_true hcon;simp only [Int.toNat_natCast] at hp ⊢;rw [hp,B4l (fun x hx=>by have:=(A0j.1 hc).2.1 x hx; unfold okE at this; omega),B4C,hl,B2l];have e:sumR (fun e=>if decide (0≤A2R (inL (pW w) n) ((endsL g.es).getD e (0,0)).1)=true∧decide (0≤A2R (inL (pW w) n) ((endsL g.es).getD e (0,0)).2)=true then (1:Int) else 0) (endsL g.es).length=inE (endsL g.es).length (gR (endsL g.es)) (aW w):=by
  unfold inE;refine A1m fun f hf=> ?_;have hE:=(B35 hr).1 f hf;have hg:=(B35 hr).2;rw [Qz,hE,Option.getD_some];simp only;have i1:= @C1D n w (gR (endsL g.es) (2*f));have i2:= @C1D n w (gR (endsL g.es) (2*f+1));have b1:=hg (2*f) (by omega);have b2:=hg (2*f+1) (by omega);by_cases c:aW w (gR (endsL g.es) (2*f))=true∧aW w (gR (endsL g.es) (2*f+1))=true
  ·rw [if_pos c,if_pos ⟨decide_eq_true (i1.2 ⟨b1,c.1⟩),decide_eq_true (i2.2 ⟨b2,c.2⟩)⟩]
  ·rw [if_neg c,if_neg fun q=>c ⟨(i1.1 (of_decide_eq_true q.1)).2,(i2.1 (of_decide_eq_true q.2)).2⟩]
 rw [e]; omega
end
set_option maxHeartbeats 2000000
section
variable {E n:Nat} {gf:Nat->Nat} {A A':Nat->Bool}
theorem B8Z (hg: ∀x,x<2*E->gf x<n) (h: ∀v,v<n->A v=A' v):inE E gf A=inE E gf A':=A1m fun f hf=>by
 rw [h _ (hg _ (by omega)),h _ (hg _ (by omega))]
theorem B6c (h: ∀v,v<n->A v=A' v):C2H n A=C2H n A':=A1m fun v hv=>by rw [h v hv]
theorem B9a (D:Nat->Int) (h: ∀v,v<n->A v=A' v):chA n D A=chA n D A':=A1m fun v hv=>by rw [h v hv]
end
theorem B2m {g:G} {k w:Nat}:w∈A4H g k↔(1≤w∧w≤k)∧B47 g w=true:=by
 unfold A4H;rw [YW,Xq];constructor
 ·rintro ⟨⟨a,ha,rfl⟩,h⟩; have:=XQ.1 ha; exact ⟨by omega,h⟩
 ·rintro ⟨h,h2⟩; exact ⟨⟨w-1,XQ.2 (by omega),by omega⟩,h2⟩
theorem C3d {n w:Nat}:(setN n w).length=n↔ ∀v,v<n->aW w v=true:=by
 unfold setN;have h:=List.length_filter_eq_length_iff (l:=List.range n) (p:=fun v=>decide (B0V w v=1));rw [Vj] at h;rw [h];exact ⟨fun q v hv=>q v (XQ.2 hv),fun q v hv=>q v (XQ.1 hv)⟩
theorem C3e (E:Nat) (gf:Nat->Nat):inE E gf (fun _=>true)=E:=by
 unfold inE;rw [A1m (g:=fun _=>1) fun _ _=>if_pos ⟨rfl,rfl⟩,A9C]; omega
theorem C1a (n:Nat):C2H n (fun _=>true)=n:=by
 unfold C2H;rw [A1m (g:=fun _=>1) fun _ _=>if_pos rfl,A9C]; omega
theorem C3f (n:Nat) (D:Nat->Int):chA n D (fun _=>true)=sumR D n:=A1m fun _ _=>if_pos rfl
theorem B9b {g:G} {n w:Nat} (hn:g.n=n) (d:List Int):okS g d w=true↔B2v g w≤A5j d (setN n w)∧((setN n w).length=n->A5j d (setN n w)=B2v g w):=by
 unfold okS;rw [show g.n.toNat=n by omega];simp only [hn];by_cases h1:A5j d (setN n w)<B2v g w
 ·simp [h1]; omega
 ·by_cases h2:(setN n w).length=n
  ·by_cases h3:A5j d (setN n w)=B2v g w
   ·simp [h1,h2,h3]
   ·simp [h1,h2,h3]
  ·simp [h1,h2]; omega
theorem A1w {g:G} (h:A0s g=0):checkG g=0∧connB g=true:=by
 unfold A0s at h;by_cases hc:checkG g=0
 ·rw [if_neg (by omega)] at h;by_cases hb:connB g=true
  ·exact ⟨hc,hb⟩
  ·rw [if_neg hb] at h; cases h
 ·rw [if_pos hc] at h; exact absurd h hc
def C30 (g:G) (d:List Int):Int:=if A0s g≠0 then A0s g else B0X d g.n
theorem C1b (g:G) (d:List Int) (hl:g.es.length≤40) (hdl:d.length<2^40):
  ACall Tryz.prog 34 [tG g,A0n d] (.tup [A0v (decide (C30 g d=0)&&B6a g d),A0m (C30 g d)]):=by
 have hJ:=A9S g hl;have hC:=A8F d g.n hdl;unfold C30;by_cases h0:A0s g=0
 ·rw [if_neg (by omega)];obtain ⟨hc,hcon⟩:=A1w h0;rw [h0] at hJ;by_cases h1:B0X d g.n=0
  ·rw [h1] at hC ⊢;rw [show decide ((0:Int)=0)=true from rfl,Jy];have h12:=(A0j.1 hc).1;obtain ⟨n,hn⟩: ∃n:Nat,g.n=n:=⟨g.n.toNat,by omega⟩;rw [hn] at h1;obtain ⟨q1,q2,q3,q4⟩:=B0J h1;have hB:=B2e g d (B8X hc hl) h12 hl (by omega) (fun v _=>by have:=q4 v; omega);generalize B6a g d=b at*;obtain ⟨n',es⟩:=g;refine ACall.of_body Tryz.func34 rfl (by kernel_rfl) ?_;simp only [entry,Tryz.ntmps34,tG,A0n];refine zU ?_;refine zR Qw8 (zc hJ (zc hC (zc hB Qw8))) Qw8 ?_;simp [A0z,A0y,Blk.cells,ty,Tryz.results34,A0t,A0u,toT,A0d,A0b,A0c,A0a,A0m,A0v]
  ·rw [decide_eq_false h1,Qq3];generalize B0X d g.n=e at*;obtain ⟨n',es⟩:=g;refine ACall.of_body Tryz.func34 rfl (by kernel_rfl) ?_;simp only [entry,Tryz.ntmps34,tG,A0n];refine zU ?_;refine zR (zc @h1 Qw8) (zc hJ (zc hC Qw8)) Qw8 ?_;simp [A0z,A0y,Blk.cells,ty,Tryz.results34,A0t,A0u,toT,A0d,A0b,A0c,A0a,A0m,A0v]
 ·rw [if_pos h0,decide_eq_false h0,Qq3];generalize A0s g=e at*;obtain ⟨n',es⟩:=g;refine ACall.of_body Tryz.func34 rfl (by kernel_rfl) ?_;simp only [entry,Tryz.ntmps34,tG,A0n];refine zU ?_;refine zR (zc @h0 Qw8) (zc hJ Qw8) Qw8 ?_;simp [A0z,A0y,Blk.cells,ty,Tryz.results34,A0t,A0u,toT,A0d,A0b,A0c,A0a,A0m,A0v]
set_option maxHeartbeats 2000000
end Go.Proofs.YtdbdfkohpjefjaaGreat
