/- A part of the proof. -/
import Derived.Test.YtdbdfkohpjefjaaGreatPart47
set_option linter.all false
set_option maxHeartbeats 4000000
set_option maxRecDepth 100000
namespace Go.Proofs.YtdbdfkohpjefjaaGreat
open Go.Sp
theorem C2w {r:R} {t:List Int} (hT:RTree r t) {h:Nat} (hh:h<2*(endsL r.es).length):((h:Nat):Int)∈tourL r t (2*(endsL r.es).length):=by
 obtain ⟨p,hP⟩:=hT.tour (by omega);rw [B2A,QJ];exact ⟨p h,XQ.2 (hP.lt h hh),hP.at_ h hh⟩
theorem C0u {r:R} {t:List Int} (hT:RTree r t) {i:Nat} (hi:i<2*(endsL r.es).length):atL (endsL r.es) (tourN r t ((i+1)%(2*(endsL r.es).length)))=atL (endsL r.es) (if ((tourN r t i / 2:Nat):Int)∈t then oppH (tourN r t i) else tourN r t i):=by
 have hS:=hT.tourS (by omega);have hr:=hT.ok;have hx:(if ((tourN r t i / 2:Nat):Int)∈t then oppH (tourN r t i) else tourN r t i)<2*(endsL r.es).length:=by
  have:=hS.lt i hi;split
  ·exact B0g this
  ·exact this
 have hn:=(hr.next hx).2.2;have hst:=hS.step i hi;rw [<-hst,Int.toNat_natCast] at hn;rw [<-hn];by_cases hl:i+1<2*(endsL r.es).length
 ·rw [Vx hl]
 ·have e:i+1=2*(endsL r.es).length:=by omega
  have h2:=(hS.bk i hi).2 hl;rw [e,Nat.mod_self];rw [e] at h2;rw [h2]; rfl
theorem C47 {r:R} (hr:ROk r) (hl:(endsL r.es).length≤8) {T:List Nat} (hT:T∈treesG r.g):B4e (A3n r (zI T)) r.n=0:=by
 have h12:=(A0h.1 hr.c).1;have e:r.g.n=r.n:=rfl;have hn:=A2B hr;unfold B4e;rw [if_neg (by omega),if_neg (by rw [A4m]; omega),if_pos];rw [Zv];intro x hx;obtain ⟨i,hi,rfl⟩:=YJ.1 hx;have h1:=B5A hr hT i;rw [Qz,Qq hi,Option.getD_some] at h1;unfold inD;simp only [XY,decide_eq_true_eq];omega
theorem C2x {r:R} (hr:ROk r) {T:List Nat} (hT:T∈treesG r.g):B9O r.g (A3n r (zI T))=true:=by
 have h12:=(A0h.1 hr.c).1;exact (C2g hr.c (n:=r.g.n.toNat) (by omega) hr.conn _).2 (C0r hr hT)
theorem B2N (g:G) (l:List Int) (hg:g.es.length≤40) (hc:checkG g=0) (hl:l.length≤2^63-1):ACall Tryz.prog 84 [tG g,A0m l] (A0k (A2h (endsL g.es).length none l)):=by
 have hsm:=A9y (g:=g) (by omega) hc;have hS:=A32 g hsm.s hsm.es hsm.m;have hlen:=A1B hg hc;clear hsm;generalize (endsL g.es).length=N at*;clear hc hg;obtain ⟨n,es⟩:=g;refine ACall.of_body Tryz.func84 rfl (by kernel_rfl) ?_;simp only [entry,Tryz.ntmps84,tG,A0m];refine zU ?_;refine zR Qw9 (zc hS Qw9) Qw9 ?_;refine AWp.loopS (α:=Nat) 42 (fun k=>[(1,.c (.slice (A0p l) .none)),(2,.c (.ptr 0 0)),(5,.c (.int .i64 (N:Int))),(6,.c (.int .i64 (k:Int)))]) (fun k=>[.box [.int .i64 n,.slice (A0f es) .none]]) (fun k=>k≤l.length∧A2h N none l=A2h N (match k with | 0=>none | j+1=>l[j]?) (l.drop k)) (fun k=>l.length-k) (0) (hk:=Weak.headL 1 42 [1,2,5,6] zW) (h0:=?_) (round:=fun k hI=>?_)
 ·exact ⟨Xj _,rfl⟩
 ·obtain ⟨hk,hx⟩:=hI;by_cases hlt:k<l.length
  ·have hltI:(k:Int)<l.length:=by omega
   have e0:=Qq hlt;have e1:=A0u e0;rw [XV hlt,A2h] at hx;generalize hv:l[k]=v at*;by_cases v0:v<0
   ·rw [if_pos (by omega)] at hx;rw [hx];refine zR (zc @hltI (zc @e1 (zc @A0e (zc @v0 Qw9)))) Qw9 Qw9 ?_;simp [A0y,A0x,Blk.cells,ty,Tryz.results84,A0s,A0t,toT,A0d,A0b,A0c,A0a,A0k]
   by_cases v1:(N:Int)≤v
   ·rw [if_pos (by omega)] at hx;rw [hx];refine zR (zc @hltI (zc @e1 (zc @A0e (zc @v0 (zc @v1 Qw9))))) Qw9 Qw9 ?_;simp [A0y,A0x,Blk.cells,ty,Tryz.results84,A0s,A0t,toT,A0d,A0b,A0c,A0a,A0k]
   rw [if_neg (by omega)] at hx;cases k with
   | zero=>
    simp only [reduceCtorEq,false_and,exists_false,if_false] at hx;refine zR (zc @hltI (zc @e1 (zc @A0e (zc @v0 (zc @v1 Qw9))))) Qw9 Qw9 ?_;refine ⟨0+1,Weak.headN 1 42 [1,2,5,6] zW,?_,?_⟩
    ·exact ⟨hlt,hx.trans (by simp only [e0])⟩
    ·omega
   | succ j=>
    have e2:=Qq (show j<l.length by omega);have e3:=A0u e2;have hj1:((j+1:Nat):Int)-1=(j:Int):=by omega
    have hj2:(0:Int)<((j+1:Nat):Int):=by omega
    have hj3:(j:Int)<l.length:=by omega
    simp only [e2,Jk,exists_eq_left'] at hx;generalize hu:l[j]=u at*;by_cases hvu:v≤u
    ·rw [if_pos hvu] at hx;rw [hx];refine zR (zc @hltI (zc @e1 (zc @e3 (zc @hj1 (zc @hj2 (zc @hj3 (zc @A0e (zc @v0 (zc @v1 (zc @hvu Qw9)))))))))) Qw9 Qw9 ?_;simp [A0y,A0x,Blk.cells,ty,Tryz.results84,A0s,A0t,toT,A0d,A0b,A0c,A0a,A0k]
    ·rw [if_neg hvu] at hx;refine zR (zc @hltI (zc @e1 (zc @e3 (zc @hj1 (zc @hj2 (zc @hj3 (zc @A0e (zc @v0 (zc @v1 (zc @hvu Qw9)))))))))) Qw9 Qw9 ?_;refine ⟨j+1+1,Weak.headN 1 42 [1,2,5,6] zW,?_,?_⟩
     ·exact ⟨hlt,hx.trans (by simp only [e0])⟩
     ·omega
  ·have e:k=l.length:=by omega
   have e:A2h N none l=0:=by rw [hx,e,Vk]; rfl
   have hnl: ¬((k:Int)<l.length):=by omega
   rw [e];refine zR (zc @hnl (zc @A0e Qw9)) Qw9 Qw9 ?_;simp [A0y,A0x,Blk.cells,ty,Tryz.results84,A0s,A0t,toT,A0d,A0b,A0c,A0a,A0k]
theorem B4l (g:G) (t:List Int) (hg:g.es.length≤40) (hl:t.length≤2^63-1):ACall Tryz.prog 37 [tG g,A0m t] (A0k (A2A g t)):=by
 by_cases h40:t.length≤40
 ·exact B69 g t hg h40
 ·have hJ:=A38 g hg;by_cases hj:A0r g=0
  case neg=>
   have e:A2A g t=A0r g:=by unfold A2A; rw [if_pos hj]
   rw [e];generalize A0r g=E at*;obtain ⟨n,es⟩:=g;refine ACall.of_body Tryz.func37 rfl (by kernel_rfl) ?_;simp only [entry,Tryz.ntmps37,tG,A0m];refine zU ?_;refine zR (zc @hj Qw9) (zc hJ Qw9) Qw9 ?_;simp [A0y,A0x,Blk.cells,ty,Tryz.results37,A0s,A0t,toT,A0d,A0b,A0c,A0a,A0k]
  have hc:=(A1W hj).1;have h12:=(A0h.1 hc).1;have hE:=B2N g t hg hc hl;have eT:A2A g t=if A2h (endsL g.es).length none t≠0 then A2h (endsL g.es).length none t else 8:=by
   unfold A2A;rw [if_neg (by omega)];split
   ·rfl
   ·rw [if_pos (by omega)]
  rw [eT];rw [hj] at hJ;by_cases hs:A2h (endsL g.es).length none t=0
  case neg=>
   rw [if_pos hs];generalize A2h (endsL g.es).length none t=E at*;clear hc eT;obtain ⟨n,es⟩:=g;refine ACall.of_body Tryz.func37 rfl (by kernel_rfl) ?_;simp only [entry,Tryz.ntmps37,tG,A0m];refine zU ?_;refine zR (zc @hs Qw9) (zc hJ (zc hE Qw9)) Qw9 ?_;simp [A0y,A0x,Blk.cells,ty,Tryz.results37,A0s,A0t,toT,A0d,A0b,A0c,A0a,A0k]
  rw [hs] at hE ⊢;rw [if_neg (by omega)];have hne: ¬(t.length:Int)=g.n-1:=by omega
  clear hc eT;obtain ⟨n,es⟩:=g;simp only at hne h12;refine ACall.of_body Tryz.func37 rfl (by kernel_rfl) ?_;simp only [entry,Tryz.ntmps37,tG,A0m];refine zU ?_;refine zR (zc @A0e (zc @hne Qw9)) (zc hJ (zc hE Qw9)) Qw9 ?_;simp [A0y,A0x,Blk.cells,ty,Tryz.results37,A0s,A0t,toT,A0d,A0b,A0c,A0a,A0k]
theorem C0v (n:Int) (es:List E) (ar:List (List Int)) (t l d:List Int) (m:Nat) (gen:Int) (at' opp x:Nat->Nat) (aI:Nat->Int) (hm:m≤8) (hl:l.length=2*m) (htl:t.length<2^40) (hd:(d.length:Int)=n)
  (f1:ACall Tryz.prog 24 [tR ⟨n,es,ar⟩] (A0z true))
  (f2:ACall Tryz.prog 37 [tG ⟨n,es⟩,A0m t] (A0k 0))
  (c1:ACall Tryz.prog 12 [tR ⟨n,es,ar⟩,A0m t] (.tup [A0m l,A0k 0]))
  (c2:ACall Tryz.prog 14 [tR ⟨n,es,ar⟩,A0m t] (.tup [A0m d,A0k 0]))
  (c3:ACall Tryz.prog 38 [tG ⟨n,es⟩] (A0k m))
  (c4: ∀h,h<2*m->ACall Tryz.prog 40 [tG ⟨n,es⟩,A0k (h:Nat)] (A0k (aI h)))
  (c5: ∀h,h<2*m->ACall Tryz.prog 41 [A0k (h:Nat)] (A0k (opp h:Nat)))
  (c6:ACall Tryz.prog 34 [tG ⟨n,es⟩,A0m d] (.tup [A0z true,A0k 0]))
  (c7:ACall Tryz.prog 32 [A0m d] (A0k gen))
  (c8:ACall Tryz.prog 42 [tG ⟨n,es⟩] (A0k gen))
  (hA:ACall Tryz.prog 11 [] (A0z true))
  (hop: ∀h,h<2*m->opp h<2*m)
  (hx: ∀i,i<2*m->l[i]? =some ((x i:Nat):Int)∧x i<2*m)
  (hh: ∀h,h<2*m->((h:Nat):Int)∈l)
  (hn: ∀i,i<2*m->aI (x ((i+1)%(2*m)))=aI (if ((x i / 2:Nat):Int)∈t then opp (x i) else x i)):
  ACall Tryz.prog 8 [tR ⟨n,es,ar⟩,A0m t] (A0z true):=by
 have hC:=fun v=>A3d l v (by omega);have hCt:=fun v=>A3d t v htl;have hlI:(l.length:Int)=2*(m:Int):=by omega
 have h2m:2*(m:Int)=((2*m:Nat):Int):=by omega
 generalize hN:2*m=N at*;refine ACall.of_body Tryz.func8 rfl (by kernel_rfl) ?_;simp only [entry,Tryz.ntmps8,tR,A0m];refine zU ?_;refine zR (zc @A0e (zc @hlI (zc @hd Qw9))) (zc f1 (zc f2 (zc c1 (zc c2 (zc c3 Qw9))))) Qw9 ?_;refine AWp.loopS (α:=Nat) 127 (fun h=>[(1,.c (.slice (A0p t) .none)),(2,.c (.ptr 0 0)),(5,.c (.slice (A0p l) .none)),(7,.c (.slice (A0p d) .none)),(9,.c (.int .i64 (2*(m:Int)))),(62,.c (.int .i64 (2*(m:Int)))),(63,.c (.int .i64 (h:Int)))]) (fun h=>[.box [.int .i64 n,.slice (A0f es) .none,.slice (A00 ar) .none]]) (fun h=>h≤N) (fun h=>N-h) (0) (hk:=Weak.headL 1 127 [1,2,5,7,9,62,63] zW) (h0:=?_) (round:=fun h hI=>?_)
 ·exact Xj _
 ·have hhN:h≤N:=hI;clear hI;by_cases hlt:h<N
  ·have hltI:(h:Int)<2*(m:Int):=by omega
   have hc1:=hC (h:Int);rw [decide_eq_true (hh h hlt)] at hc1;refine zR (zc @hltI Qw9) (zc hc1 Qw9) Qw9 ?_;refine ⟨h+1,Weak.headN 1 127 [1,2,5,7,9,62,63] zW,?_,?_⟩
   ·exact hlt
   ·omega
  ·have hnl: ¬((h:Int)<2*(m:Int)):=by omega
   refine zJ (stop 15) (zc @hnl (zc @A0e (zc @hlI Qw9))) Qw9 Qw9 Qw9 ?_;refine AWp.loopS (α:=Nat) 127 (fun i=>[(1,.c (.slice (A0p t) .none)),(2,.c (.ptr 0 0)),(5,.c (.slice (A0p l) .none)),(7,.c (.slice (A0p d) .none)),(9,.c (.int .i64 (2*(m:Int)))),(71,.c (.slice (A0p l) .none)),(72,.c (.int .i64 (2*(m:Int)))),(73,.c (.int .i64 (i:Int)))]) (fun i=>[.box [.int .i64 n,.slice (A0f es) .none,.slice (A00 ar) .none]]) (fun i=>i≤N) (fun i=>N-i) (0) (hk:=Weak.headL 1 127 [1,2,5,7,9,71,72,73] zW) (h0:=?_) (round:=fun i hI=>?_)
   ·exact Xj _
   ·have hiN:i≤N:=hI;clear hI;by_cases hil:i<N
    ·have hltI:(i:Int)<2*(m:Int):=by omega
     obtain ⟨x1,x2⟩:=hx i hil;obtain ⟨y1,y2⟩:=hx ((i+1)%N) (VZ _ (by omega));have g1:=A0u x1;have g2:=A0u y1;have hA1:=c4 (x i) x2;have hA2:=c4 (x ((i+1)%N)) y2;have hct:=hCt ((x i / 2:Nat):Int);have hni:=hn i hil;have hO:=c5 (x i) x2;have hA3:=c4 (opp (x i)) (hop _ x2);have hrem:Int.tmod ((i:Int)+1) (2*(m:Int))=(((i+1)%N:Nat):Int):=by rw [h2m]; exact C5m i N
     have hmz: ¬(2*(m:Int)=0):=by omega
     have hq:=B8t (x i);have hxh:x i / 2≤100:=by omega
     have hrl:(((i+1)%N:Nat):Int)<2*(m:Int):=by have:=VZ (i+1) (show 0<N by omega); omega
     clear hN hx hC hCt hn hh c4 c5;generalize (i+1)%N=j at*;generalize x i / 2=xh at*;by_cases hmem:((xh:Nat):Int)∈t
     ·rw [decide_eq_true hmem] at hct;rw [if_pos hmem] at hni;generalize x i=xi at*;generalize x j=xj at*;generalize opp xi=oi at*;generalize aI oi=ao at*;generalize aI xj=aj at*;subst hni;refine zR (zc @hltI (zc @g1 (zc @g2 (zc @hq (zc @hrem (zc @hmz (zc @hrl (zc @A0e (zc @hlI Qw9))))))))) (zc hA1 (zc hA2 (zc hct (zc hO (zc hA3 Qw9))))) Qw9 ?_;refine ⟨i+1,Weak.headN 1 127 [1,2,5,7,9,71,72,73] zW,?_,?_⟩
      ·exact hil
      ·omega
     ·rw [decide_eq_false hmem] at hct;rw [if_neg hmem] at hni;generalize x i=xi at*;generalize x j=xj at*;generalize aI xi=ai at*;generalize aI xj=aj at*;subst hni;refine zR (zc @hltI (zc @g1 (zc @g2 (zc @hq (zc @hrem (zc @hmz (zc @hrl (zc @A0e (zc @hlI Qw9))))))))) (zc hA1 (zc hA2 (zc hct Qw9))) Qw9 ?_;refine ⟨i+1,Weak.headN 1 127 [1,2,5,7,9,71,72,73] zW,?_,?_⟩
      ·exact hil
      ·omega
    ·have hnl2: ¬((i:Int)<2*(m:Int)):=by omega
     refine zR (zc @hnl2 Qw9) (zc c6 (zc c7 (zc c8 (zc hA Qw9)))) Qw9 ?_;simp [A0y,A0x,Blk.cells,ty,Tryz.results8,A0s,A0t,toT,A0d,A0b,A0c,A0a,A0z]
theorem C0w (r:R) (t:List Int) (htl:t.length≤2^63-1):ACall Tryz.prog 8 [tR r,A0m t] (A0z true):=by
 have hA:=B7b;have f1:=B7f r;by_cases hr:C5N r=true
 case neg=>
  simp only [Qq5] at hr;rw [hr] at f1;obtain ⟨n,es,ar⟩:=r;refine ACall.of_body Tryz.func8 rfl (by kernel_rfl) ?_;simp only [entry,Tryz.ntmps8,tR,A0m];refine zU ?_;refine zR Qw9 (zc f1 (zc hA Qw9)) Qw9 ?_;simp [A0y,A0x,Blk.cells,ty,Tryz.results8,A0s,A0t,toT,A0d,A0b,A0c,A0a,A0z]
 rw [hr] at f1;have hD:=B7e hr;have f2:=B4l r.g t hD.hs.es htl;by_cases h0:A2A r.g t=0
 case neg=>
  generalize A2A r.g t=e at*;clear hr hD;obtain ⟨n,es,ar⟩:=r;have f3:ACall Tryz.prog 37 [tG ⟨n,es⟩,A0m t] (A0k e):=f2;refine ACall.of_body Tryz.func8 rfl (by kernel_rfl) ?_;simp only [entry,Tryz.ntmps8,tR,A0m];refine zU ?_;refine zR (zc @h0 Qw9) (zc f1 (zc f3 (zc hA Qw9))) Qw9 ?_;simp [A0y,A0x,Blk.cells,ty,Tryz.results8,A0s,A0t,toT,A0d,A0b,A0c,A0a,A0z]
 rw [h0] at f2;have hg:B0t r t=0:=by unfold B0t; rw [if_neg (by have:=hD.rib; omega)]; exact h0
 obtain ⟨hT,hTl⟩:=A69 hg;have htl':t.length<2^40:=by have h:=(A0h.1 hT.ok.c).1; have e:r.g.n=r.n:=rfl; omega
 obtain ⟨T,hTm,rfl⟩:=C2t hg;have hrk:=hD.rok;have h12:=(A0h.1 hrk.c).1;have en:r.g.n=r.n:=rfl;have hnn:=A2B hrk;have c1:=B29 r (zI T) hD.hs htl';have c2:=A72 r (zI T) hD.hs htl';rw [if_neg (by omega),hg] at c1 c2;have hs:=A9y (g:=r.g) (by have:=hD.hs.es; show r.es.length<_; omega) hrk.c;have c3:=A32 r.g hs.s hs.es hs.m;have c4:=fun h hh=>B5d r.g hD.hs.es hrk.c h hh;have c5:=fun h (hh:h<2*(endsL r.es).length)=>B3W h (by have:=hD.ends; omega);have c6:=C2h r.g (A3n r (zI T)) hD.hs.es (by rw [A4m]; omega);have hbe:C59 r.g (A3n r (zI T))=0:=by
  unfold C59;rw [if_neg (by unfold A0r; rw [if_neg (by have:=hrk.c; omega),if_pos hrk.conn]; simp)];exact C47 hrk hD.ends hTm
 rw [hbe,C2x hrk hTm] at c6;have c7:=C2m (A3n r (zI T)) (n:=r.n.toNat) (A4m _ _) (by omega) (fun v=>by have:=B5A hrk hTm v; have:=hD.ends; omega);have c8:=B8z r.g r.n.toNat hrk.c (by omega) (by have:=hD.hs.es; show r.es.length<_; omega);have hpn:A1K r.g.es r.n.toNat r.n.toNat=1:=by have:=hrk.conn; unfold connB at this; exact of_decide_eq_true this
 have hgen:A91 (A3n r (zI T)) r.n.toNat=((endsL r.g.es).length:Int)-(r.n.toNat:Int)+(A1K r.g.es r.n.toNat r.n.toNat:Nat):=by
  unfold A91; rw [C43 hrk hTm,hpn]; show ((endsL r.es).length:Int)-_+1=((endsL r.es).length:Int)-_+(1:Nat); omega
 rw [<-hgen] at c8;obtain ⟨n,es,ar⟩:=r;exact C0v n es ar (zI T) _ _ (endsL es).length _ id oppH (tourN ⟨n,es,ar⟩ (zI T)) (atL (endsL es)) hD.ends (B23 _ _ _) htl' (by rw [A4m]; simp only at hnn ⊢; omega) f1 f2 c1 c2 c3 c4 c5 c6 c7 c8 hA (fun h hh=>B0g hh)
  (fun i hi=>⟨B9H hi,(hT.tourS (by simp only; omega)).lt i hi⟩) (fun h hh=>C2w hT hh) (fun i hi=>C0u hT hi)
end Go.Proofs.YtdbdfkohpjefjaaGreat
