/- A part of the proof. -/
import Derived.Test.YtdbdfkohpjefjaaGreatPart18
import Derived.Test.YtdbdfkohpjefjaaGreatPart19
import Derived.Test.YtdbdfkohpjefjaaGreatPart20
set_option linter.all false
set_option maxHeartbeats 4000000
set_option maxRecDepth 100000
namespace Go.Proofs.YtdbdfkohpjefjaaGreat
open Go.Sp
theorem C2k {L:List (Int×Int)} {p:Int×Int} {h:Nat} (hh:h<2*L.length):atL (L++[p]) h=atL L h:=by
 unfold atL;rw [Qz,Qz,Qv (by omega)]
theorem B4p {L:List (Int×Int)} {p:Int×Int} {v:Int}: ∀{k:Nat},k≤2*L.length->ownL (L++[p]) v k=ownL L v k
 | 0,_=>rfl
 | k+1,h=>by rw [A40,A40,C2k (by omega),B4p (by omega)]
theorem C2l (L:List (Int×Int)) (v:Int):((ownL L v (2*L.length)).length:Int)=A6x v L:=by
 refine A3K (P:=fun L=>((ownL L v (2*L.length)).length:Int)=A6x v L) rfl ?_ L;intro L p ih;rw [Xv,List.length_singleton,show 2*(L.length+1)=2*L.length+1+1 by omega,A40,A40,B4p (QQ _),B7n];have a1:atL (L++[p]) (2*L.length)=p.1:=by
  unfold atL;rw [if_pos (by omega),show 2*L.length / 2=L.length by omega,Qz]; simp
 have a2:atL (L++[p]) (2*L.length+1)=p.2:=by
  unfold atL;rw [if_neg (by omega),show (2*L.length+1) / 2=L.length by omega,Qz]; simp
 rw [a1,a2];unfold b2i;by_cases h1:p.1=v<;>by_cases h2:p.2=v<;>simp [h1,h2]<;>omega
theorem C01 {g:G} {n:Nat} (hc:checkG g=0) (hn:g.n=n) {v:Int} (hv:0≤v∧v<n):B1H g.es v n+2*A1E g.es v v=(ownL (endsL g.es) v (2*(endsL g.es).length)).length:=by
 obtain ⟨h1,h2,h3⟩:=A0j.1 hc;rw [C2l,C0l hc hn hv];exact (B4b (A5z h3) (fun x hx=>by have:=h2 x hx; unfold okE at this; omega) v).symm
theorem C3C {l own:List Int} (h:A2M own [] l=0) (hlen:l.length=own.length) (hs:own.Pairwise (·< ·)):(l≠[]∧l.getD 0 0≠own.getD 0 0)↔ ∃x,x∈l∧x<l.getD 0 0:=by
 obtain ⟨q1,q2,_⟩:=A6E h;have q3:=C1g q2 q1 hlen;rw [YQ] at hs;have hmin: ∀x,x∈own->own.getD 0 0≤x:=fun x hx=>by
  obtain ⟨k,hk,rfl⟩:=Ww.1 hx;rw [Qz,Qq (by omega),Option.getD_some];by_cases e:k=0
  ·subst e; exact Qx7 _
  ·have:=hs 0 k (by omega) hk (by omega); omega
 constructor
 ·rintro ⟨h1,h2⟩;have hp:0<l.length:=YX.2 h1;have e1:l.getD 0 0=l[0]:=by rw [Qz,Qq hp]; rfl
  have e2:own.getD 0 0=own[0]'(by omega):=by rw [Qz,Qq (by omega)]; rfl
  have h3:=hmin (l.getD 0 0) (q1 _ (by rw [e1]; exact Xw _));exact ⟨own.getD 0 0,q3 _ (by rw [e2]; exact Xw _),by omega⟩
 ·intro h;obtain ⟨x,hx,hlt⟩:=h;refine ⟨fun e=> ?_,fun e=> ?_⟩
  ·rw [e] at hx; exact absurd hx (Qk)
  ·have:=hmin x (q1 x hx);omega
theorem A9L (g:G) (hl:g.es.length≤40) (hc:checkG g=0):ACall Tryz.prog 86 [tG g] (A0C (endsL g.es)):=by
 have hs:=B5i (g:=g) (by omega) hc;exact B3S g hs.s hs.es hs.m
theorem B06 (g:G) (hl:g.es.length≤40) (hc:checkG g=0) (h:Nat) (hh:h<2*(endsL g.es).length):ACall Tryz.prog 40 [tG g,A0k h] (A0k (atL (endsL g.es) h)):=by
 have hE:=A9L g hl hc;have hlen:=A1t hl hc;have e0:(endsL g.es)[h / 2]? =some (endsL g.es)[h / 2]:=Qq (by omega);have e1:=A2o e0;have ea:atL (endsL g.es) h=if h%2=0 then (endsL g.es)[h / 2].1 else (endsL g.es)[h / 2].2:=by unfold atL; rw [Qz,e0]; rfl
 have hlt:((h / 2:Nat):Int)<(endsL g.es).length:=by omega
 rw [ea];clear ea;generalize (endsL g.es)[h / 2]=p at*;obtain ⟨a,b⟩:=p;generalize endsL g.es=L at*;obtain ⟨n,es⟩:=g;refine ACall.of_body Tryz.func40 rfl (by kernel_rfl) ?_;simp only [entry,Tryz.ntmps40,tG,A0k];refine zU ?_;have hm:h%2=0∨h%2=1:=by omega
 rcases hm with hm | hm
 ·
  refine zR (zc @B9X (zc @B5p (zc @hm (zc @hlt (zc @A02 (zc @e1 Qw6)))))) (zc hE Qw6) Qw6 ?_;simp [A0y,A0x,Blk.cells,ty,Tryz.results40,A0s,A0u,toT,A0e,A0b,A0c,A0a,A0k,hm]
 ·
  refine zR (zc @B9X (zc @B5p (zc @hm (zc @hlt (zc @A02 (zc @e1 Qw6)))))) (zc hE Qw6) Qw6 ?_;simp [A0y,A0x,Blk.cells,ty,Tryz.results40,A0s,A0u,toT,A0e,A0b,A0c,A0a,A0k,hm]
theorem A9M (g:G) (hl:g.es.length≤40) (hc:checkG g=0):ACall Tryz.prog 100 [tG g] (A0k (2*((endsL g.es).length:Int))):=by
 have hs:=B5i (g:=g) (by omega) hc;have hZ:=A72 g hs.s hs.es hs.m;have hlen:=A1t hl hc;generalize endsL g.es=L at*;obtain ⟨n,es⟩:=g;refine ACall.of_body Tryz.func100 rfl (by kernel_rfl) ?_;simp only [entry,Tryz.ntmps100,tG];refine zU ?_;refine zR Qw6 (zc hZ Qw6) Qw6 ?_;simp [A0y,A0x,Blk.cells,ty,Tryz.results100,A0s,A0u,toT,A0e,A0b,A0c,A0a,A0k]
theorem A9N (g:G) (hl:g.es.length≤40) (hc:checkG g=0):ACall Tryz.prog 48 [tG g] (A01 (connB g)):=by
 have h12:=(A0j.1 hc).1;have hP:=C0f g g.n.toNat hc (by omega) (by omega);unfold connB;generalize A2q g.es g.n.toNat g.n.toNat=k at*;have e:decide (k=1)=decide ((k:Int)=1):=decide_eq_decide.2 (by omega);rw [e];obtain ⟨n,es⟩:=g;refine ACall.of_body Tryz.func48 rfl (by kernel_rfl) ?_;simp only [entry,Tryz.ntmps48,tG];refine zU ?_;refine zR Qw6 (zc hP Qw6) Qw6 ?_;simp [A0y,A0x,Blk.cells,ty,Tryz.results48,A0s,A0u,toT,A0e,A0b,A0c,A0a,A01]
theorem A7i (g:G) (hl:g.es.length≤40):ACall Tryz.prog 43 [tG g] (A0k (A0w g)):=by
 have hC:=A5Q g (by omega);unfold A0w;by_cases hc:checkG g=0
 ·have hK:=A9N g hl hc;have hCn:=hK;clear hK;rw [if_neg (by omega)];rw [hc] at hC;generalize connB g=b at*;obtain ⟨n,es⟩:=g;refine ACall.of_body Tryz.func43 rfl (by kernel_rfl) ?_;simp only [entry,Tryz.ntmps43,tG];refine zU ?_;cases b with
  | true=>
   rw [if_pos rfl];refine zR Qw6 (zc hC (zc hCn Qw6)) Qw6 ?_;simp [A0y,A0x,Blk.cells,ty,Tryz.results43,A0s,A0u,toT,A0e,A0b,A0c,A0a,A0k]
  | false=>
   rw [if_neg (by simp)];refine zR Qw6 (zc hC (zc hCn Qw6)) Qw6 ?_;simp [A0y,A0x,Blk.cells,ty,Tryz.results43,A0s,A0u,toT,A0e,A0b,A0c,A0a,A0k]
 ·rw [if_pos hc];generalize checkG g=E at*;obtain ⟨n,es⟩:=g;refine ACall.of_body Tryz.func43 rfl (by kernel_rfl) ?_;simp only [entry,Tryz.ntmps43,tG];refine zU ?_;refine zR (zc @hc Qw6) (zc hC Qw6) Qw6 ?_;simp [A0y,A0x,Blk.cells,ty,Tryz.results43,A0s,A0u,toT,A0e,A0b,A0c,A0a,A0k]
theorem B7Y (g:G) (hl:g.es.length≤40) (hc:checkG g=0) (v:Nat) (hv:(v:Int)<g.n) (l:List Int) (hll:l.length<2^20):
  ACall Tryz.prog 110 [tG g,A0k v,A0m l] (A0k (A1j l (ownL (endsL g.es) (v:Int) (2*(endsL g.es).length)))):=by
 have h12:=(A0j.1 hc).1;have hD:=B54 g g.n.toNat hc (by omega) (by omega) v;rw [C01 hc (by omega) ⟨by omega,by omega⟩] at hD;have hH:=A9M g hl hc;have hA:=fun (h:Nat) (hh:h<2*(endsL g.es).length)=>B06 g hl hc h hh;have hlen:=A1t hl hc;have hs:=A8w (endsL g.es) (v:Int) (2*(endsL g.es).length);have hmem:=fun x=>A1H (L:=endsL g.es) (v:=(v:Int)) (k:=2*(endsL g.es).length) (x:=x);have hol:=A76 (endsL g.es) (v:Int) (2*(endsL g.es).length);generalize ownL (endsL g.es) (v:Int) (2*(endsL g.es).length)=own at*;generalize endsL g.es=L at*;clear hc;obtain ⟨n,es⟩:=g;simp only at hv h12 hl;refine ACall.of_body Tryz.func110 rfl (by kernel_rfl) ?_;simp only [entry,Tryz.ntmps110,tG,A0k,A0m];refine zU ?_;by_cases hlo:l.length=own.length
 case neg=>
  have hI: ¬((l.length:Int)=own.length):=by omega
  have e:A1j l own=8:=by unfold A1j; exact if_pos hlo
  rw [e];refine zR (zc @A0d (zc @hI Qw6)) (zc hD Qw6) Qw6 ?_;simp [A0y,A0x,Blk.cells,ty,Tryz.results110,A0s,A0u,toT,A0e,A0b,A0c,A0a,A0k]
 have hI:((l.length:Int)=own.length):=by omega
 refine zR (zc @A0d (zc @hI Qw6)) (zc hD Qw6) Qw6 ?_;refine AWp.loopS (α:=Nat) 67 (fun i=>[(1,.c (.int .i64 (v:Int))),(2,.c (.slice (A0o l) .none)),(3,.c (.ptr 0 0)),(7,.c (.int .i64 (i:Int)))]) (fun i=>[.box [.int .i64 n,.slice (A0f es) .none]]) (fun i=>i≤l.length∧A2M own [] l=A2M own (l.take i) (l.drop i)) (fun i=>l.length-i) (0) (hk:=A0r.headL 1 67 [1,2,3,7] zW) (h0:=?_) (round:=fun i hI=>?_)
 ·exact ⟨Xj _,rfl⟩
 ·obtain ⟨hi,hI2⟩:=hI;by_cases hlt:i<l.length
  ·have hltI:(i:Int)<own.length:=by omega
   have e0:=Qq hlt;have e1:=A0t e0;have hd:=Zq hlt;have htk:l.take (i+1)=l.take i++[l[i]]:=XQ hlt;generalize l[i]=x at*;have hm:=hmem x;have hHo:=A6h (l.take i) x (by rw [WX]; omega);have herr: ¬x∈own->A1j l own=2:=fun hn=>by
    have hg:A2M own [] l=2:=by rw [hI2,hd]; simp only [A2M]; rw [if_neg hn]
    unfold A1j; rw [if_neg (by omega),hg]; rfl
   by_cases hx0:x<0
   ·have e:=herr (fun h=>by have:=hm.1 h; omega);rw [e];refine zR (zc @hltI (zc @hI (zc @A0d (zc @e1 (zc @hx0 Qw6))))) Qw6 Qw6 ?_;simp [A0y,A0x,Blk.cells,ty,Tryz.results110,A0s,A0u,toT,A0e,A0b,A0c,A0a,A0k]
   by_cases hx1:2*(L.length:Int)≤x
   ·have e:=herr (fun h=>by have:=hm.1 h; omega);rw [e];refine zR (zc @hltI (zc @hI (zc @A0d (zc @e1 (zc @hx0 (zc @hx1 Qw6)))))) (zc hH Qw6) Qw6 ?_;simp [A0y,A0x,Blk.cells,ty,Tryz.results110,A0s,A0u,toT,A0e,A0b,A0c,A0a,A0k]
   obtain ⟨y,rfl⟩:=XX (show 0≤x by omega);have hyl:y<2*L.length:=by omega
   have hAy:=hA y hyl;rw [Int.toNat_natCast] at hm;by_cases hav:atL L y=v
   case neg=>
    have e:=herr (fun h=>hav (hm.1 h).2.2);rw [e];generalize atL L y=a at*;refine zR (zc @hltI (zc @hI (zc @A0d (zc @e1 (zc @hx0 (zc @hx1 (zc @hav Qw6))))))) (zc hH (zc hAy Qw6)) Qw6 ?_;simp [A0y,A0x,Blk.cells,ty,Tryz.results110,A0s,A0u,toT,A0e,A0b,A0c,A0a,A0k]
   have hin:(y:Int)∈own:=hm.2 ⟨by omega,by omega,hav⟩;rw [hav] at hAy;by_cases hc:(y:Int)∈l.take i
   ·have hg:A2M own [] l=7:=by rw [hI2,hd]; simp only [A2M]; rw [if_pos hin,if_pos hc]
    have e:A1j l own=7:=by unfold A1j; rw [if_neg (by omega),hg]; rfl
    rw [e];rw [decide_eq_true hc] at hHo;refine zR (zc @hltI (zc @hI (zc @A0d (zc @e1 (zc @hx0 (zc @hx1 (zc @A4Q (zc @ZQ (zc @hlt Qw6))))))))) (zc hH (zc hAy (zc hHo Qw6))) @A1c ?_;simp [A0y,A0x,Blk.cells,ty,Tryz.results110,A0s,A0u,toT,A0e,A0b,A0c,A0a,A0k]
   ·rw [decide_eq_false hc] at hHo;refine zR (zc @hltI (zc @hI (zc @A0d (zc @e1 (zc @hx0 (zc @hx1 (zc @A4Q (zc @ZQ (zc @hlt Qw6))))))))) (zc hH (zc hAy (zc hHo Qw6))) @A1c ?_;refine ⟨i+1,A0r.headN 1 67 [1,2,3,7] zW,?_,?_⟩
    ·refine ⟨hlt,?_⟩;rw [hI2,hd,A99 hin hc,<-htk]
    ·omega
  ·have ei:i=l.length:=by omega
   have hg:A2M own [] l=0:=by rw [hI2,ei,Vk]; rfl
   have hnl: ¬((i:Int)<own.length):=by omega
   have hh:=C3C hg hlo hs;have herr:A1j l own=if l≠[]∧l.getD 0 0≠own.getD 0 0 then 9 else 0:=by unfold A1j; rw [if_neg (by omega),if_neg (by omega)]
   refine zR (zc @hnl (zc @A0d (zc @hI Qw6))) Qw6 Qw6 ?_;refine AWp.loopS (α:=Nat) 67 (fun j=>[(2,.c (.slice (A0o l) .none)),(8,.c (.int .i64 ((j:Int)+1)))]) (fun j=>[]) (fun j=>∀ k x,k≤j->l[k]? =some x-> ¬x<l.getD 0 0) (fun j=>l.length-j) (0) (hk:=A0r.headL 0 67 [2,8] zW) (h0:=?_) (round:=fun j hI=>?_)
   ·intro k x hk hx;have:k=0:=by omega
    subst this;rw [Qz,hx]; simp
   ·have hinv:=hI;clear hI;by_cases hltj:j+1<l.length
    ·have hltJ:(j:Int)+1<own.length:=by omega
     have f0:=Qq hltj;have f1:=A0t f0;have g0:=Qq (show 0<l.length by omega);have g1:=A0t g0;have hgd:l.getD 0 0=l[0]:=by rw [Qz,g0]; rfl
     have ht:((j:Int)+1).toNat=j+1:=by omega
     have hml:=Xw hltj;have hoI:(0:Int)<own.length:=by omega
     generalize l[j+1]=x at*;generalize l[0]=z at*;by_cases hxz:x<z
     ·have e:A1j l own=9:=by rw [herr,if_pos]; exact hh.2 ⟨x,hml,by rw [hgd]; exact hxz⟩
      rw [e];refine zR (zc @hltJ (zc @hI (zc @A0d (zc @f1 (zc @g1 (zc @ht (zc @Int.toNat_zero (zc @hxz (zc @hoI Qw6))))))))) Qw6 Qw6 ?_;simp [A0y,A0x,Blk.cells,ty,Tryz.results110,A0s,A0u,toT,A0e,A0b,A0c,A0a,A0k]
     ·have hxz2:z≤x:=by omega
      refine zR (zc @hltJ (zc @hI (zc @A0d (zc @f1 (zc @g1 (zc @ht (zc @Int.toNat_zero (zc @hxz (zc @hoI Qw6))))))))) Qw6 Qw6 ?_;refine ⟨j+1,A0r.headN 0 67 [2,8] zW,?_,?_⟩
      ·intro k y hk hy;by_cases e:k=j+1
       ·subst e;rw [f0] at hy;cases hy;rw [hgd]; exact hxz
       ·exact hinv k y (by omega) hy
      ·omega
    ·have hnlj: ¬((j:Int)+1<own.length):=by omega
     have e:A1j l own=0:=by
      rw [herr,if_neg];intro h;obtain ⟨x,hx,hlt⟩:=hh.1 h;obtain ⟨k,hk,rfl⟩:=Ww.1 hx;exact hinv k _ (by omega) (Qq hk) hlt
     rw [e];refine zR (zc @hnlj (zc @hI (zc @A0d Qw6))) Qw6 Qw6 ?_;simp [A0y,A0x,Blk.cells,ty,Tryz.results110,A0s,A0u,toT,A0e,A0b,A0c,A0a,A0k]
theorem B3m (r:R) (hs:RSm r):ACall Tryz.prog 67 [tR r] (A0k (ribE r)):=by
 have hJ:=A7i r.g hs.es;by_cases hj:A0w r.g=0
 case neg=>
  have e:ribE r=A0w r.g:=by unfold ribE; rw [if_pos hj]
  rw [e];clear e;generalize A0w r.g=E at*;obtain ⟨n,es,ar⟩:=r;refine ACall.of_body Tryz.func67 rfl (by kernel_rfl) ?_;simp only [entry,Tryz.ntmps67,tR];refine zU ?_;refine zR (zc @hj Qw6) (zc hJ Qw6) Qw6 ?_;simp [A0y,A0x,Blk.cells,ty,Tryz.results67,A0s,A0u,toT,A0e,A0b,A0c,A0a,A0k]
 have hc:checkG r.g=0:=by
  unfold A0w at hj;by_cases h:checkG r.g=0
  ·exact h
  ·rw [if_pos h] at hj; exact absurd hj h
 have h12:1≤r.n∧r.n≤12:=(A0j.1 hc).1;have eR:ribE r=if (r.ar.length:Int)≠r.n then 8 else A5c (endsL r.es) (2*(endsL r.es).length) 0 r.ar:=by unfold ribE; rw [if_neg (by omega)]
 rw [eR];rw [hj] at hJ;have hAr:=fun (v:Nat) (hv:(v:Int)<r.n) (l:List Int) (hl:l.length<2^20)=>B7Y r.g hs.es hc v hv l hl;have hLl:=hs.l;have hA:=hs.ar;clear hs hj hc eR;obtain ⟨n,es,ar⟩:=r;simp only [R.g] at hJ hAr h12 hLl hA ⊢;generalize hL:endsL es=L at*;obtain ⟨k,rfl⟩:=XX (show 0≤n by omega);refine ACall.of_body Tryz.func67 rfl (by kernel_rfl) ?_;simp only [entry,Tryz.ntmps67,tR];refine zU ?_;by_cases hlen2:ar.length=k
 case neg=>
  have hI: ¬((ar.length:Int)=k):=by omega
  rw [if_pos hI];refine zR (zc @A0q (zc @hI Qw6)) (zc hJ Qw6) Qw6 ?_;simp [A0y,A0x,Blk.cells,ty,Tryz.results67,A0s,A0u,toT,A0e,A0b,A0c,A0a,A0k]
 have hI:(ar.length:Int)=k:=by omega
 rw [if_neg (show ¬((ar.length:Int)≠(k:Int)) by omega)];refine zR (zc @A0q (zc @hI Qw6)) (zc hJ Qw6) Qw6 ?_;refine AWp.loopS (α:=Nat) 38 (fun i=>[(1,.c (.ptr 0 0)),(4,.c (.int .i64 (i:Int)))]) (fun i=>[.box [.int .i64 (k:Int),.slice (A0f es) .none,.slice (A07 ar) .none]]) (fun i=>i≤k∧A5c L (2*L.length) 0 ar=A5c L (2*L.length) i (ar.drop i)) (fun i=>k-i) (0) (hk:=A0r.headL 1 38 [1,4] zW) (h0:=?_) (round:=fun i hI=>?_)
 ·exact ⟨Xj _,rfl⟩
 ·obtain ⟨hi,hI2⟩:=hI;by_cases hlt:i<k
  ·have hltI:(i:Int)<k:=by omega
   have hil:i<ar.length:=by omega
   have e0:=Qq hil;have e1:=A0V e0;have hd:=Zq hil;have hl:=hLl _ (Xw hil);generalize ar[i]=l at*;have hlist:=hAr i hltI l hl;have hg:A5c L (2*L.length) i (l::ar.drop (i+1))=if A1j l (ownL L (i:Int) (2*L.length))≠0 then A1j l (ownL L (i:Int) (2*L.length)) else A5c L (2*L.length) (i+1) (ar.drop (i+1)):=rfl
   rw [<-hd,<-hI2] at hg;generalize A1j l (ownL L (i:Int) (2*L.length))=E at*;by_cases hE:E=0
   ·rw [if_neg (by omega)] at hg;subst hE;refine zR (zc @hltI (zc @A0q (zc @hI (zc @e1 Qw6)))) (zc hlist Qw6) Qw6 ?_;refine ⟨i+1,A0r.headN 1 38 [1,4] zW,?_,?_⟩
    ·exact ⟨hlt,hg⟩
    ·omega
   ·rw [if_pos hE] at hg;rw [hg];refine zR (zc @hltI (zc @A0q (zc @hI (zc @e1 (zc @hE Qw6))))) (zc hlist Qw6) Qw6 ?_;simp [A0y,A0x,Blk.cells,ty,Tryz.results67,A0s,A0u,toT,A0e,A0b,A0c,A0a,A0k]
  ·have ei:i=k:=by omega
   subst ei;have hz:A5c L (2*L.length) 0 ar=0:=by rw [hI2,Vv (by omega)]; rfl
   have hnl: ¬((i:Int)<i):=by omega
   rw [hz];refine zR (zc @hnl Qw6) Qw6 Qw6 ?_;simp [A0y,A0x,Blk.cells,ty,Tryz.results67,A0s,A0u,toT,A0e,A0b,A0c,A0a,A0k]
set_option maxHeartbeats 1000000
structure NG (g:G) (n:Nat) (L:List (Nat×Nat)):Prop where
 hn:g.n=n
 h1:1≤n
 h12:n≤12
 ends:endsL g.es=LI L
 lt: ∀p,p∈L->p.1<n∧p.2<n
 len:L.length≤2000
theorem B3n (a b:List Int) (ha:a.length<2^40) (hb:b.length<2^40):ACall Tryz.prog 16 [A0m a,A0m b] (A01 (decide (a=b))):=by
 refine ACall.of_body Tryz.func16 rfl (by kernel_rfl) ?_;simp only [entry,Tryz.ntmps16,A0m];refine zU ?_;by_cases hlen:a.length=b.length
 case neg=>
  have hI: ¬((a.length:Int)=b.length):=by omega
  rw [decide_eq_false (fun e=>hlen (by rw [e]))];refine zR (zc @A0d (zc @hI Qw6)) Qw6 Qw6 ?_;simp [A0y,A0x,Blk.cells,ty,Tryz.results16,A0s,A0u,toT,A0e,A0b,A0c,A0a,A01]
 have hI:((a.length:Int)=b.length):=by omega
 refine zR (zc @A0d (zc @hI Qw6)) Qw6 Qw6 ?_;refine AWp.loopS (α:=Nat) 26 (fun i=>[(0,.c (.slice (A0o a) .none)),(1,.c (.slice (A0o b) .none)),(5,.c (.int .i64 (i:Int)))]) (fun i=>[]) (fun i=>i≤b.length∧a.take i=b.take i) (fun i=>b.length-i) (0) (hk:=A0r.headL 0 26 [0,1,5] zW) (h0:=?_) (round:=fun i hI=>?_)
 ·exact ⟨Xj _,rfl⟩
 ·obtain ⟨hi,hI2⟩:=hI;by_cases hlt:i<b.length
  ·have hltI:(i:Int)<b.length:=by omega
   have hia:i<a.length:=by omega
   have e0:=Qq hia;have f0:=Qq hlt;have e1:=A0t e0;have f1:=A0t f0;have t1:a.take (i+1)=a.take i++[a[i]]:=XQ hia;have t2:b.take (i+1)=b.take i++[b[i]]:=XQ hlt;generalize a[i]=x at*;generalize b[i]=y at*;by_cases hxy:x=y
   ·subst hxy;refine zR (zc @hltI (zc @A0d (zc @hI (zc @e1 (zc @f1 Qw6))))) Qw6 Qw6 ?_;refine ⟨i+1,A0r.headN 0 26 [0,1,5] zW,?_,?_⟩
    ·exact ⟨hlt,by rw [t1,t2,hI2]⟩
    ·omega
   ·rw [decide_eq_false (fun e=>hxy (by subst e; rw [e0] at f0; exact Vx f0))];refine zR (zc @hltI (zc @A0d (zc @hI (zc @e1 (zc @f1 (zc @hxy Qw6)))))) Qw6 Qw6 ?_;simp [A0y,A0x,Blk.cells,ty,Tryz.results16,A0s,A0u,toT,A0e,A0b,A0c,A0a,A01]
  ·have ei:i=b.length:=by omega
   have hab:a=b:=by
    rw [ZX (by omega),ZX (by omega)] at hI2;exact hI2
   rw [decide_eq_true hab];have hnl: ¬((i:Int)<b.length):=by omega
   refine zR (zc @hnl (zc @A0d (zc @hI Qw6))) Qw6 Qw6 ?_;simp [A0y,A0x,Blk.cells,ty,Tryz.results16,A0s,A0u,toT,A0e,A0b,A0c,A0a,A01]
end Go.Proofs.YtdbdfkohpjefjaaGreat
