/- A part of the proof. -/
import Derived.Test.YtdbdfkohpjefjaaGreatPart16
set_option linter.all false
set_option maxHeartbeats 4000000
set_option maxRecDepth 100000
namespace Go.Proofs.YtdbdfkohpjefjaaGreat
open Go.Sp
def C4L {L:List (Int×Int)} {p:Int×Int} {h:Nat} (hh:h<2*L.length):atL (L++[p]) h=atL L h:=by
 unfold atL;rw [Qz,Qz,Qk (by omega)]
def B5J {L:List (Int×Int)} {p:Int×Int} {v:Int}: ∀{k:Nat},k≤2*L.length->ownL (L++[p]) v k=ownL L v k
 | 0,_=>rfl
 | k+1,h=>by rw [A4Y,A4Y,C4L (by omega),B5J (by omega)]
def C4M (L:List (Int×Int)) (v:Int):((ownL L v (2*L.length)).length:Int)=A6W v L:=by
 refine A2O (P:=fun L=>((ownL L v (2*L.length)).length:Int)=A6W v L) rfl ?_ L;intro L p ih;rw [Xv,List.length_singleton,show 2*(L.length+1)=2*L.length+1+1 by omega,A4Y,A4Y,B5J (QQ _),B8X];have a1:atL (L++[p]) (2*L.length)=p.1:=by
  unfold atL;rw [if_pos (by omega),show 2*L.length / 2=L.length by omega,Qz]; simp
 have a2:atL (L++[p]) (2*L.length+1)=p.2:=by
  unfold atL;rw [if_neg (by omega),show (2*L.length+1) / 2=L.length by omega,Qz]; simp
 rw [a1,a2];unfold b2i;by_cases h1:p.1=v<;>by_cases h2:p.2=v<;>simp [h1,h2]<;>omega
def C2A {g:G} {n:Nat} (hc:checkG g=0) (hn:g.n=n) {v:Int} (hv:0≤v∧v<n):B2Q g.es v n+2*A1H g.es v v=(ownL (endsL g.es) v (2*(endsL g.es).length)).length:=by
 obtain ⟨h1,h2,h3⟩:=A0j.1 hc;rw [C4M,C2q hc hn hv];exact (B51 (A5Y h3) (fun x hx=>by have:=h2 x hx; unfold okE at this; omega) v).symm
def C6u {l own:List Int} (h:A3n own [] l=0) (hlen:l.length=own.length) (hs:own.Pairwise (·< ·)):(l≠[]∧l.getD 0 0≠own.getD 0 0)↔ ∃x,x∈l∧x<l.getD 0 0:=by
 obtain ⟨q1,q2,_⟩:=A7n h;have q3:=C32 q2 q1 hlen;rw [ZV] at hs;have hmin: ∀x,x∈own->own.getD 0 0≤x:=fun x hx=>by
  obtain ⟨k,hk,rfl⟩:=YJ.1 hx;rw [Qz,Qq (by omega),Option.getD_some];by_cases e:k=0
  ·subst e; exact WW _
  ·have:=hs 0 k (by omega) hk (by omega); omega
 constructor
 ·rintro ⟨h1,h2⟩;have hp:0<l.length:=Ww.2 h1;have e1:l.getD 0 0=l[0]:=by rw [Qz,Qq hp]; rfl
  have e2:own.getD 0 0=own[0]'(by omega):=by rw [Qz,Qq (by omega)]; rfl
  have h3:=hmin (l.getD 0 0) (q1 _ (by rw [e1]; exact Xk _));exact ⟨own.getD 0 0,q3 _ (by rw [e2]; exact Xk _),by omega⟩
 ·intro h;obtain ⟨x,hx,hlt⟩:=h;refine ⟨fun e=> ?_,fun e=> ?_⟩
  ·rw [e] at hx; exact absurd hx (Qv)
  ·have:=hmin x (q1 x hx);omega
def B0H (g:G) (hl:g.es.length≤40) (hc:checkG g=0):ACall Tryz.prog 86 [tG g] (A0E (endsL g.es)):=by
 have hs:=B6G (g:=g) (by omega) hc;exact B5s g hs.s hs.es hs.m
def C2B (g:G) (hl:g.es.length≤40) (hc:checkG g=0) (h:Nat) (hh:h<2*(endsL g.es).length):ACall Tryz.prog 40 [tG g,A0n h] (A0n (atL (endsL g.es) h)):=by
 have hE:=B0H g hl hc;have hlen:=A1T hl hc;have e0:(endsL g.es)[h / 2]? =some (endsL g.es)[h / 2]:=Qq (by omega);have e1:=A27 e0;have ea:atL (endsL g.es) h=if h%2=0 then (endsL g.es)[h / 2].1 else (endsL g.es)[h / 2].2:=by unfold atL; rw [Qz,e0]; rfl
 have hlt:((h / 2:Nat):Int)<(endsL g.es).length:=by omega
 rw [ea];clear ea;generalize (endsL g.es)[h / 2]=p at*;obtain ⟨a,b⟩:=p;generalize endsL g.es=L at*;obtain ⟨n,es⟩:=g;refine ACall.of_body Tryz.func40 rfl (by kernel_rfl) ?_;simp only [entry,Tryz.ntmps40,tG,A0n];refine zU ?_;have hm:h%2=0∨h%2=1:=by omega
 rcases hm with hm | hm
 ·
  refine zR (zc @C1V (zc @C1W (zc @hm (zc @hlt (zc @A08 (zc @e1 Qv6)))))) (zc hE Qv6) Qv6 ?_;simp [A00,A0z,Blk.cells,ty,Tryz.results40,A0v,A0w,toT,A0d,A0b,A0c,A0a,A0n,hm]
 ·
  refine zR (zc @C1V (zc @C1W (zc @hm (zc @hlt (zc @A08 (zc @e1 Qv6)))))) (zc hE Qv6) Qv6 ?_;simp [A00,A0z,Blk.cells,ty,Tryz.results40,A0v,A0w,toT,A0d,A0b,A0c,A0a,A0n,hm]
def B7n (g:G) (hl:g.es.length≤40) (hc:checkG g=0):ACall Tryz.prog 100 [tG g] (A0n (2*((endsL g.es).length:Int))):=by
 have hs:=B6G (g:=g) (by omega) hc;have hZ:=A8g g hs.s hs.es hs.m;have hlen:=A1T hl hc;generalize endsL g.es=L at*;obtain ⟨n,es⟩:=g;refine ACall.of_body Tryz.func100 rfl (by kernel_rfl) ?_;simp only [entry,Tryz.ntmps100,tG];refine zU ?_;refine zR Qv6 (zc hZ Qv6) Qv6 ?_;simp [A00,A0z,Blk.cells,ty,Tryz.results100,A0v,A0w,toT,A0d,A0b,A0c,A0a,A0n]
def B0I (g:G) (hl:g.es.length≤40) (hc:checkG g=0):ACall Tryz.prog 48 [tG g] (A0x (connB g)):=by
 have h12:=(A0j.1 hc).1;have hP:=C2k g g.n.toNat hc (by omega) (by omega);unfold connB;generalize A2p g.es g.n.toNat g.n.toNat=k at*;have e:decide (k=1)=decide ((k:Int)=1):=decide_eq_decide.2 (by omega);rw [e];obtain ⟨n,es⟩:=g;refine ACall.of_body Tryz.func48 rfl (by kernel_rfl) ?_;simp only [entry,Tryz.ntmps48,tG];refine zU ?_;refine zR Qv6 (zc hP Qv6) Qv6 ?_;simp [A00,A0z,Blk.cells,ty,Tryz.results48,A0v,A0w,toT,A0d,A0b,A0c,A0a,A0x]
def A7N (g:G) (hl:g.es.length≤40):ACall Tryz.prog 43 [tG g] (A0n (A0t g)):=by
 have hC:=A6x g (by omega);unfold A0t;by_cases hc:checkG g=0
 ·have hK:=B0I g hl hc;have hCn:=hK;clear hK;rw [if_neg (by omega)];rw [hc] at hC;generalize connB g=b at*;obtain ⟨n,es⟩:=g;refine ACall.of_body Tryz.func43 rfl (by kernel_rfl) ?_;simp only [entry,Tryz.ntmps43,tG];refine zU ?_;cases b with
  | true=>
   rw [if_pos rfl];refine zR Qv6 (zc hC (zc hCn Qv6)) Qv6 ?_;simp [A00,A0z,Blk.cells,ty,Tryz.results43,A0v,A0w,toT,A0d,A0b,A0c,A0a,A0n]
  | false=>
   rw [if_neg (by simp)];refine zR Qv6 (zc hC (zc hCn Qv6)) Qv6 ?_;simp [A00,A0z,Blk.cells,ty,Tryz.results43,A0v,A0w,toT,A0d,A0b,A0c,A0a,A0n]
 ·rw [if_pos hc];generalize checkG g=E at*;obtain ⟨n,es⟩:=g;refine ACall.of_body Tryz.func43 rfl (by kernel_rfl) ?_;simp only [entry,Tryz.ntmps43,tG];refine zU ?_;refine zR (zc @hc Qv6) (zc hC Qv6) Qv6 ?_;simp [A00,A0z,Blk.cells,ty,Tryz.results43,A0v,A0w,toT,A0d,A0b,A0c,A0a,A0n]
def B9O (g:G) (hl:g.es.length≤40) (hc:checkG g=0) (v:Nat) (hv:(v:Int)<g.n) (l:List Int) (hll:l.length<2^20):
  ACall Tryz.prog 110 [tG g,A0n v,A0q l] (A0n (A1m l (ownL (endsL g.es) (v:Int) (2*(endsL g.es).length)))):=by
 have h12:=(A0j.1 hc).1;have hD:=B6Y g g.n.toNat hc (by omega) (by omega) v;rw [C2A hc (by omega) ⟨by omega,by omega⟩] at hD;have hH:=B7n g hl hc;have hA:=fun (h:Nat) (hh:h<2*(endsL g.es).length)=>C2B g hl hc h hh;have hlen:=A1T hl hc;have hs:=A9c (endsL g.es) (v:Int) (2*(endsL g.es).length);have hmem:=fun x=>A1K (L:=endsL g.es) (v:=(v:Int)) (k:=2*(endsL g.es).length) (x:=x);have hol:=A8m (endsL g.es) (v:Int) (2*(endsL g.es).length);generalize ownL (endsL g.es) (v:Int) (2*(endsL g.es).length)=own at*;generalize endsL g.es=L at*;clear hc;obtain ⟨n,es⟩:=g;simp only at hv h12 hl;refine ACall.of_body Tryz.func110 rfl (by kernel_rfl) ?_;simp only [entry,Tryz.ntmps110,tG,A0n,A0q];refine zU ?_;by_cases hlo:l.length=own.length
 case neg=>
  have hI: ¬((l.length:Int)=own.length):=by omega
  have e:A1m l own=8:=by unfold A1m; exact if_pos hlo
  rw [e];refine zR (zc @A0e (zc @hI Qv6)) (zc hD Qv6) Qv6 ?_;simp [A00,A0z,Blk.cells,ty,Tryz.results110,A0v,A0w,toT,A0d,A0b,A0c,A0a,A0n]
 have hI:((l.length:Int)=own.length):=by omega
 refine zR (zc @A0e (zc @hI Qv6)) (zc hD Qv6) Qv6 ?_;refine AWp.loopS (α:=Nat) 67 (fun i=>[(1,.c (.int .i64 (v:Int))),(2,.c (.slice (A0p l) .none)),(3,.c (.ptr 0 0)),(7,.c (.int .i64 (i:Int)))]) (fun i=>[.box [.int .i64 n,.slice (A0f es) .none]]) (fun i=>i≤l.length∧A3n own [] l=A3n own (l.take i) (l.drop i)) (fun i=>l.length-i) (0) (hk:=Weak.headL 1 67 [1,2,3,7] zW) (h0:=?_) (round:=fun i hI=>?_)
 ·exact ⟨Xw _,rfl⟩
 ·obtain ⟨hi,hI2⟩:=hI;by_cases hlt:i<l.length
  ·have hltI:(i:Int)<own.length:=by omega
   have e0:=Qq hlt;have e1:=A0y e0;have hd:=Zz hlt;have htk:l.take (i+1)=l.take i++[l[i]]:=XZ hlt;generalize l[i]=x at*;have hm:=hmem x;have hHo:=C2r (l.take i) x (by rw [YV]; omega);have herr: ¬x∈own->A1m l own=2:=fun hn=>by
    have hg:A3n own [] l=2:=by rw [hI2,hd]; simp only [A3n]; rw [if_neg hn]
    unfold A1m; rw [if_neg (by omega),hg]; rfl
   by_cases hx0:x<0
   ·have e:=herr (fun h=>by have:=hm.1 h; omega);rw [e];refine zR (zc @hltI (zc @hI (zc @A0e (zc @e1 (zc @hx0 Qv6))))) Qv6 Qv6 ?_;simp [A00,A0z,Blk.cells,ty,Tryz.results110,A0v,A0w,toT,A0d,A0b,A0c,A0a,A0n]
   by_cases hx1:2*(L.length:Int)≤x
   ·have e:=herr (fun h=>by have:=hm.1 h; omega);rw [e];refine zR (zc @hltI (zc @hI (zc @A0e (zc @e1 (zc @hx0 (zc @hx1 Qv6)))))) (zc hH Qv6) Qv6 ?_;simp [A00,A0z,Blk.cells,ty,Tryz.results110,A0v,A0w,toT,A0d,A0b,A0c,A0a,A0n]
   obtain ⟨y,rfl⟩:=XV (show 0≤x by omega);have hyl:y<2*L.length:=by omega
   have hAy:=hA y hyl;rw [Int.toNat_natCast] at hm;by_cases hav:atL L y=v
   case neg=>
    have e:=herr (fun h=>hav (hm.1 h).2.2);rw [e];generalize atL L y=a at*;refine zR (zc @hltI (zc @hI (zc @A0e (zc @e1 (zc @hx0 (zc @hx1 (zc @hav Qv6))))))) (zc hH (zc hAy Qv6)) Qv6 ?_;simp [A00,A0z,Blk.cells,ty,Tryz.results110,A0v,A0w,toT,A0d,A0b,A0c,A0a,A0n]
   have hin:(y:Int)∈own:=hm.2 ⟨by omega,by omega,hav⟩;rw [hav] at hAy;by_cases hc:(y:Int)∈l.take i
   ·have hg:A3n own [] l=7:=by rw [hI2,hd]; simp only [A3n]; rw [if_pos hin,if_pos hc]
    have e:A1m l own=7:=by unfold A1m; rw [if_neg (by omega),hg]; rfl
    rw [e];rw [decide_eq_true hc] at hHo;refine zR (zc @hltI (zc @hI (zc @A0e (zc @e1 (zc @hx0 (zc @hx1 (zc @A5z (zc @ZJ (zc @hlt Qv6))))))))) (zc hH (zc hAy (zc hHo Qv6))) @A1v ?_;simp [A00,A0z,Blk.cells,ty,Tryz.results110,A0v,A0w,toT,A0d,A0b,A0c,A0a,A0n]
   ·rw [decide_eq_false hc] at hHo;refine zR (zc @hltI (zc @hI (zc @A0e (zc @e1 (zc @hx0 (zc @hx1 (zc @A5z (zc @ZJ (zc @hlt Qv6))))))))) (zc hH (zc hAy (zc hHo Qv6))) @A1v ?_;refine ⟨i+1,Weak.headN 1 67 [1,2,3,7] zW,?_,?_⟩
    ·refine ⟨hlt,?_⟩;rw [hI2,hd,B03 hin hc,<-htk]
    ·omega
  ·have ei:i=l.length:=by omega
   have hg:A3n own [] l=0:=by rw [hI2,ei,Qq2]; rfl
   have hnl: ¬((i:Int)<own.length):=by omega
   have hh:=C6u hg hlo hs;have herr:A1m l own=if l≠[]∧l.getD 0 0≠own.getD 0 0 then 9 else 0:=by unfold A1m; rw [if_neg (by omega),if_neg (by omega)]
   refine zR (zc @hnl (zc @A0e (zc @hI Qv6))) Qv6 Qv6 ?_;refine AWp.loopS (α:=Nat) 67 (fun j=>[(2,.c (.slice (A0p l) .none)),(8,.c (.int .i64 ((j:Int)+1)))]) (fun j=>[]) (fun j=>∀ k x,k≤j->l[k]? =some x-> ¬x<l.getD 0 0) (fun j=>l.length-j) (0) (hk:=Weak.headL 0 67 [2,8] zW) (h0:=?_) (round:=fun j hI=>?_)
   ·intro k x hk hx;have:k=0:=by omega
    subst this;rw [Qz,hx]; simp
   ·have hinv:=hI;clear hI;by_cases hltj:j+1<l.length
    ·have hltJ:(j:Int)+1<own.length:=by omega
     have f0:=Qq hltj;have f1:=A0y f0;have g0:=Qq (show 0<l.length by omega);have g1:=A0y g0;have hgd:l.getD 0 0=l[0]:=by rw [Qz,g0]; rfl
     have ht:((j:Int)+1).toNat=j+1:=by omega
     have hml:=Xk hltj;have hoI:(0:Int)<own.length:=by omega
     generalize l[j+1]=x at*;generalize l[0]=z at*;by_cases hxz:x<z
     ·have e:A1m l own=9:=by rw [herr,if_pos]; exact hh.2 ⟨x,hml,by rw [hgd]; exact hxz⟩
      rw [e];refine zR (zc @hltJ (zc @hI (zc @A0e (zc @f1 (zc @g1 (zc @ht (zc @Int.toNat_zero (zc @hxz (zc @hoI Qv6))))))))) Qv6 Qv6 ?_;simp [A00,A0z,Blk.cells,ty,Tryz.results110,A0v,A0w,toT,A0d,A0b,A0c,A0a,A0n]
     ·have hxz2:z≤x:=by omega
      refine zR (zc @hltJ (zc @hI (zc @A0e (zc @f1 (zc @g1 (zc @ht (zc @Int.toNat_zero (zc @hxz (zc @hoI Qv6))))))))) Qv6 Qv6 ?_;refine ⟨j+1,Weak.headN 0 67 [2,8] zW,?_,?_⟩
      ·intro k y hk hy;by_cases e:k=j+1
       ·subst e;rw [f0] at hy;cases hy;rw [hgd]; exact hxz
       ·exact hinv k y (by omega) hy
      ·omega
    ·have hnlj: ¬((j:Int)+1<own.length):=by omega
     have e:A1m l own=0:=by
      rw [herr,if_neg];intro h;obtain ⟨x,hx,hlt⟩:=hh.1 h;obtain ⟨k,hk,rfl⟩:=YJ.1 hx;exact hinv k _ (by omega) (Qq hk) hlt
     rw [e];refine zR (zc @hnlj (zc @hI (zc @A0e Qv6))) Qv6 Qv6 ?_;simp [A00,A0z,Blk.cells,ty,Tryz.results110,A0v,A0w,toT,A0d,A0b,A0c,A0a,A0n]
def B4C (r:R) (hs:RSm r):ACall Tryz.prog 67 [tR r] (A0n (ribE r)):=by
 have hJ:=A7N r.g hs.es;by_cases hj:A0t r.g=0
 case neg=>
  have e:ribE r=A0t r.g:=by unfold ribE; rw [if_pos hj]
  rw [e];clear e;generalize A0t r.g=E at*;obtain ⟨n,es,ar⟩:=r;refine ACall.of_body Tryz.func67 rfl (by kernel_rfl) ?_;simp only [entry,Tryz.ntmps67,tR];refine zU ?_;refine zR (zc @hj Qv6) (zc hJ Qv6) Qv6 ?_;simp [A00,A0z,Blk.cells,ty,Tryz.results67,A0v,A0w,toT,A0d,A0b,A0c,A0a,A0n]
 have hc:checkG r.g=0:=by
  unfold A0t at hj;by_cases h:checkG r.g=0
  ·exact h
  ·rw [if_pos h] at hj; exact absurd hj h
 have h12:1≤r.n∧r.n≤12:=(A0j.1 hc).1;have eR:ribE r=if (r.ar.length:Int)≠r.n then 8 else A5A (endsL r.es) (2*(endsL r.es).length) 0 r.ar:=by unfold ribE; rw [if_neg (by omega)]
 rw [eR];rw [hj] at hJ;have hAr:=fun (v:Nat) (hv:(v:Int)<r.n) (l:List Int) (hl:l.length<2^20)=>B9O r.g hs.es hc v hv l hl;have hLl:=hs.l;have hA:=hs.ar;clear hs hj hc eR;obtain ⟨n,es,ar⟩:=r;simp only [R.g] at hJ hAr h12 hLl hA ⊢;generalize hL:endsL es=L at*;obtain ⟨k,rfl⟩:=XV (show 0≤n by omega);refine ACall.of_body Tryz.func67 rfl (by kernel_rfl) ?_;simp only [entry,Tryz.ntmps67,tR];refine zU ?_;by_cases hlen2:ar.length=k
 case neg=>
  have hI: ¬((ar.length:Int)=k):=by omega
  rw [if_pos hI];refine zR (zc @A0o (zc @hI Qv6)) (zc hJ Qv6) Qv6 ?_;simp [A00,A0z,Blk.cells,ty,Tryz.results67,A0v,A0w,toT,A0d,A0b,A0c,A0a,A0n]
 have hI:(ar.length:Int)=k:=by omega
 rw [if_neg (show ¬((ar.length:Int)≠(k:Int)) by omega)];refine zR (zc @A0o (zc @hI Qv6)) (zc hJ Qv6) Qv6 ?_;refine AWp.loopS (α:=Nat) 38 (fun i=>[(1,.c (.ptr 0 0)),(4,.c (.int .i64 (i:Int)))]) (fun i=>[.box [.int .i64 (k:Int),.slice (A0f es) .none,.slice (A0u ar) .none]]) (fun i=>i≤k∧A5A L (2*L.length) 0 ar=A5A L (2*L.length) i (ar.drop i)) (fun i=>k-i) (0) (hk:=Weak.headL 1 38 [1,4] zW) (h0:=?_) (round:=fun i hI=>?_)
 ·exact ⟨Xw _,rfl⟩
 ·obtain ⟨hi,hI2⟩:=hI;by_cases hlt:i<k
  ·have hltI:(i:Int)<k:=by omega
   have hil:i<ar.length:=by omega
   have e0:=Qq hil;have e1:=A0U e0;have hd:=Zz hil;have hl:=hLl _ (Xk hil);generalize ar[i]=l at*;have hlist:=hAr i hltI l hl;have hg:A5A L (2*L.length) i (l::ar.drop (i+1))=if A1m l (ownL L (i:Int) (2*L.length))≠0 then A1m l (ownL L (i:Int) (2*L.length)) else A5A L (2*L.length) (i+1) (ar.drop (i+1)):=rfl
   rw [<-hd,<-hI2] at hg;generalize A1m l (ownL L (i:Int) (2*L.length))=E at*;by_cases hE:E=0
   ·rw [if_neg (by omega)] at hg;subst hE;refine zR (zc @hltI (zc @A0o (zc @hI (zc @e1 Qv6)))) (zc hlist Qv6) Qv6 ?_;refine ⟨i+1,Weak.headN 1 38 [1,4] zW,?_,?_⟩
    ·exact ⟨hlt,hg⟩
    ·omega
   ·rw [if_pos hE] at hg;rw [hg];refine zR (zc @hltI (zc @A0o (zc @hI (zc @e1 (zc @hE Qv6))))) (zc hlist Qv6) Qv6 ?_;simp [A00,A0z,Blk.cells,ty,Tryz.results67,A0v,A0w,toT,A0d,A0b,A0c,A0a,A0n]
  ·have ei:i=k:=by omega
   subst ei;have hz:A5A L (2*L.length) 0 ar=0:=by rw [hI2,JY (by omega)]; rfl
   have hnl: ¬((i:Int)<i):=by omega
   rw [hz];refine zR (zc @hnl Qv6) Qv6 Qv6 ?_;simp [A00,A0z,Blk.cells,ty,Tryz.results67,A0v,A0w,toT,A0d,A0b,A0c,A0a,A0n]
def C7q (g:G) (l:List Int):Int:=if checkG g≠0 then checkG g else A47 (endsL g.es).length none l
def B9P (g:G) (l:List Int) (hg:g.es.length≤40) (hl:l.length<2^40):ACall Tryz.prog 180 [tG g,A0q l] (A0n (C7q g l)):=by
 have hS:=C4l g (by omega);unfold C7q;by_cases hc:checkG g=0
 case neg=>
  rw [if_pos hc];rw [if_pos hc] at hS;generalize checkG g=E at*;obtain ⟨n,es⟩:=g;refine ACall.of_body Tryz.func180 rfl (by kernel_rfl) ?_;simp only [entry,Tryz.ntmps180,tG,A0q];refine zU ?_;refine zR (zc @hc Qv6) (zc hS Qv6) Qv6 ?_;simp [A00,A0z,Blk.cells,ty,Tryz.results180,A0v,A0w,toT,A0d,A0b,A0c,A0a,A0n]
 rw [if_neg (by omega)];rw [if_neg (by omega),hc] at hS;have hlen:=A1T hg hc;generalize (endsL g.es).length=N at*;clear hc hg;obtain ⟨n,es⟩:=g;refine ACall.of_body Tryz.func180 rfl (by kernel_rfl) ?_;simp only [entry,Tryz.ntmps180,tG,A0q];refine zU ?_;refine zR (zc @A0e Qv6) (zc hS Qv6) Qv6 ?_;refine AWp.loopS (α:=Nat) 45 (fun k=>[(1,.c (.slice (A0p l) .none)),(2,.c (.ptr 0 0)),(5,.c (.int .i64 (N:Int))),(17,.c (.slice (A0p l) .none)),(18,.c (.int .i64 l.length)),(19,.c (.int .i64 (k:Int)))]) (fun k=>[.box [.int .i64 n,.slice (A0f es) .none]]) (fun k=>k≤l.length∧A47 N none l=A47 N (match k with | 0=>none | j+1=>l[j]?) (l.drop k)) (fun k=>l.length-k) (0) (hk:=Weak.headL 1 45 [1,2,5,17,18,19] zW) (h0:=?_) (round:=fun k hI=>?_)
 ·exact ⟨Xw _,rfl⟩
 ·obtain ⟨hk,hx⟩:=hI;by_cases hlt:k<l.length
  ·have hltI:(k:Int)<l.length:=by omega
   have e0:=Qq hlt;have e1:=A0y e0;rw [Zz hlt,A47] at hx;generalize hv:l[k]=v at*;by_cases v0:v<0
   ·rw [if_pos (by omega)] at hx;rw [hx];refine zR (zc @hltI (zc @e1 (zc @v0 Qv6))) Qv6 Qv6 ?_;simp [A00,A0z,Blk.cells,ty,Tryz.results180,A0v,A0w,toT,A0d,A0b,A0c,A0a,A0n]
   by_cases v1:(N:Int)≤v
   ·rw [if_pos (by omega)] at hx;rw [hx];refine zR (zc @hltI (zc @e1 (zc @v0 (zc @v1 Qv6)))) Qv6 Qv6 ?_;simp [A00,A0z,Blk.cells,ty,Tryz.results180,A0v,A0w,toT,A0d,A0b,A0c,A0a,A0n]
   rw [if_neg (by omega)] at hx;cases k with
   | zero=>
    simp only [reduceCtorEq,false_and,exists_false,if_false] at hx;refine zR (zc @hltI (zc @e1 (zc @v0 (zc @v1 Qv6)))) Qv6 Qv6 ?_;refine ⟨0+1,Weak.headN 1 45 [1,2,5,17,18,19] zW,?_,?_⟩
    ·exact ⟨hlt,hx.trans (by simp only [e0])⟩
    ·omega
   | succ j=>
    have e2:=Qq (show j<l.length by omega);have e3:=A0y e2;have hj1:((j+1:Nat):Int)-1=(j:Int):=by omega
    have hj2:(0:Int)<((j+1:Nat):Int):=by omega
    have hj3:(j:Int)<l.length:=by omega
    simp only [e2,Vw,exists_eq_left'] at hx;generalize hu:l[j]=u at*;by_cases hvu:v≤u
    ·rw [if_pos hvu] at hx;rw [hx];refine zR (zc @hltI (zc @e1 (zc @e3 (zc @hj1 (zc @hj2 (zc @hj3 (zc @A0e (zc @v0 (zc @v1 (zc @hvu Qv6)))))))))) Qv6 Qv6 ?_;simp [A00,A0z,Blk.cells,ty,Tryz.results180,A0v,A0w,toT,A0d,A0b,A0c,A0a,A0n]
    ·rw [if_neg hvu] at hx;refine zR (zc @hltI (zc @e1 (zc @e3 (zc @hj1 (zc @hj2 (zc @hj3 (zc @A0e (zc @v0 (zc @v1 (zc @hvu Qv6)))))))))) Qv6 Qv6 ?_;refine ⟨j+1+1,Weak.headN 1 45 [1,2,5,17,18,19] zW,?_,?_⟩
     ·exact ⟨hlt,hx.trans (by simp only [e0])⟩
     ·omega
  ·have e:k=l.length:=by omega
   have e:A47 N none l=0:=by rw [hx,e,Qq2]; rfl
   have hnl: ¬((k:Int)<l.length):=by omega
   rw [e];refine zR (zc @hnl Qv6) Qv6 Qv6 ?_;simp [A00,A0z,Blk.cells,ty,Tryz.results180,A0v,A0w,toT,A0d,A0b,A0c,A0a,A0n]
noncomputable def A9T (g:G) (t:List Int):G:=⟨g.n,A3k (A59 (pkL (endsL g.es) t))⟩
variable {M:List (Int×Int)}
def B9Q {n:Int} (hM: ∀p,p∈M->okP n p) {x y:Int}:(x,y)∈endsL (A3k (A59 M))↔ ∃p,p∈M∧min p.1 p.2=x∧max p.1 p.2=y:=by
 have hb:=B9C hM M.length (QQ _);have hcnt: ∀a b,A1H (A59 M) a b=(M.countP (isP a b):Int):=fun a b=>by
  have e:=C22 M a b M.length (QQ _);rwa [Zy] at e
 rw [Zy] at hb;constructor
 ·intro h;obtain ⟨e,he,hx⟩:=A3T h;have he':=(A10 (A59 M)).mem_iff.1 he;have hc:=A3r hb.d he';have hm:=hb.m e he';rw [hcnt] at hc;have hpos:0<M.countP (isP e.a e.b):=by omega
  obtain ⟨p,hp,hq⟩:=List.countP_pos_iff.1 hpos;unfold isP at hq;simp only [decide_eq_true_eq] at hq;cases hx;exact ⟨p,hp,hq.1,hq.2⟩
 ·rintro ⟨p,hp,rfl,rfl⟩;have hpos:0<M.countP (isP (min p.1 p.2) (max p.1 p.2)):=List.countP_pos_iff.2 ⟨p,hp,by unfold isP; simp⟩;have hne:A1H (A59 M) (min p.1 p.2) (max p.1 p.2)≠0:=by rw [hcnt]; omega
  have hmem:=A3s hne;have hm:=hb.m _ hmem;exact Jq.2 ⟨_,(A10 (A59 M)).mem_iff.2 hmem,YY.2 ⟨by simp only at hm ⊢; omega,rfl⟩⟩
def B18 {l m:List (Int×Int)} (h: ∀x y,(x,y)∈l->(x,y)∈m∨(y,x)∈m) {u w:Nat} (hc:Conn l u w):Conn m u w:=by
 induction hc with
 | refl=>exact .refl
 | step _ hs ih=>
  rcases hs with hs | hs
  ·rcases h _ _ hs with q | q
   ·exact ih.step (.inl q)
   ·exact ih.step (.inr q)
  ·rcases h _ _ hs with q | q
   ·exact ih.step (.inr q)
   ·exact ih.step (.inl q)
def C2C {n:Int} (hM: ∀p,p∈M->okP n p) {u w:Nat}:Conn (endsL (A3k (A59 M))) u w↔Conn M u w:=by
 constructor
 ·refine B18 fun x y hxy=> ?_;obtain ⟨p,hp,rfl,rfl⟩:=(B9Q hM).1 hxy;obtain ⟨a,b⟩:=p;rcases Int.le_total a b with h | h
  ·rw [Int.min_eq_left h,Int.max_eq_right h]; exact .inl hp
  ·rw [Int.min_eq_right h,Int.max_eq_left h]; exact .inr hp
 ·refine B18 fun x y hxy=> ?_;have:=(B9Q hM (x:=min x y) (y:=max x y)).2 ⟨(x,y),hxy,rfl,rfl⟩;rcases Int.le_total x y with h | h
  ·rw [Int.min_eq_left h,Int.max_eq_right h] at this; exact .inl this
  ·rw [Int.min_eq_right h,Int.max_eq_left h] at this; exact .inr this
def B4D {g:G} (hc:checkG g=0) {t:List Int} (ht: ∀x,x∈t->0≤x∧x<(endsL g.es).length): ∀p,p∈pkL (endsL g.es) t->okP g.n p:=fun p hp=>by
 have h12:=(A0j.1 hc).1;have:=A94 (n:=g.n.toNat) (L:=endsL g.es) (fun p hp=>A2i hc (by omega) p hp) ht p hp;unfold okP; omega
def B9R {n:Int} (hn:1≤n∧n≤12) (hM: ∀p,p∈M->okP n p) (hl:M.length≤50):checkG ⟨n,A3k (A59 M)⟩=0∧(A3k (A59 M)).length≤M.length:=by
 have hb:=B9C hM M.length (QQ _);rw [Zy] at hb;refine ⟨A0j.2 ⟨hn,fun e he=> ?_,A28 hb.d⟩,?_⟩
 ·have he':=(A10 (A59 M)).mem_iff.1 he;have h1:=hb.m e he';have h2:=hb.r e he';unfold okE; simp only; omega
 ·rw [(A10 (A59 M)).length_eq]; exact hb.len
def B9S {g:G} (hc:checkG g=0) {t:List Int} (ht: ∀x,x∈t->0≤x∧x<(endsL g.es).length) (hl:t.length≤50):A5T g.n (pkL (endsL g.es) t)=(A9T g t,0):=by
 have h12:=(A0j.1 hc).1;have hM:=B4D hc ht;have hb:=B9C hM _ (QQ _);rw [Zy] at hb;unfold A5T A9T
 rw [if_neg (by omega),if_neg (by rw [A2x]; omega),if_neg (by
  rintro ⟨p,hp,hx⟩; exact hx (hM p hp)),if_neg (by
  rintro ⟨e,he,hx⟩;have:=hb.m e he
  rw [A2x] at this; omega)]
def C4N (g:G) (t:List Int) (hg:g.es.length≤40) (hc:checkG g=0) (ht: ∀x,x∈t->0≤x∧x<(endsL g.es).length) (hl:t.length≤50):ACall Tryz.prog 144 [tG g,A0q t] (tG (A9T g t)):=by
 have hE:=B0H g hg hc;have hM:=C21 g.n (pkL (endsL g.es) t) (by rw [A2x]; omega);rw [B9S hc ht hl] at hM;have hlen:=A1T hg hc;generalize A9T g t=W at*;obtain ⟨wn,wes⟩:=W;generalize endsL g.es=L at*;clear hc hg;obtain ⟨n,es⟩:=g;simp only at hM ⊢;refine ACall.of_body Tryz.func144 rfl (by kernel_rfl) ?_;simp only [entry,Tryz.ntmps144,tG,A0q];refine zU ?_;refine zJ (stop 3) Qv6 (zc hE Qv6) Qv6 Qv6 ?_;refine AWp.weak (Weak.opens ((fun t f=>[f,f,f,f,f,f,t,f,f,f,f,f,f,f,f,f,f,f,f,f,f,f,f,f,f,f,f,f,f,f,f,f,f,f,f,f]) true false) 2 (by first | omega | simp)) ?_;simp only [A2F,A8H,List.length_cons,List.length_nil,Xv,Nat.reduceAdd,List.cons_append,List.nil_append];refine zR Qv6 Qv6 Qv6 ?_;refine AWp.loopS (α:=Nat) 36 (fun i=>[(1,.c (.slice (A0p t) .none)),(2,.c (.ptr 0 0)),(4,.c (.ptr 1 0)),(5,.c (.slice (A1g L) .none)),(6,.c (.slice (A1g (pkL L (t.take i))) (.chain 2))),(7,.c (.int .i64 (i:Int)))]) (fun i=>[.box [.int .i64 n,.slice (A0f es) .none],.box [.int .i64 0,.nils],.chain (pkL L (t.take i)).length 2]) (fun i=>i≤t.length) (fun i=>t.length-i) (0) (hk:=Weak.headL 3 36 [1,2,4,5,6,7] zW) (h0:=?_) (round:=fun i hI=>?_)
 ·exact Xw _
 ·have hi:i≤t.length:=hI;clear hI;have htl:(pkL L (t.take i)).length=i:=by rw [A2x,YV]; omega
  by_cases hlt:i<t.length
  ·have hltI:(i:Int)<t.length:=by omega
   have e0:=Qq hlt;have e1:=A0y e0;have hsn:pkL L (t.take (i+1))=pkL L (t.take i)++[L.getD t[i].toNat (0,0)]:=by
    unfold pkL; rw [XZ hlt,WY]; rfl
   have hx:=ht _ (Xk hlt);have htl2:(pkL L (t.take (i+1))).length=i+1:=by rw [A2x,YV]; omega
   generalize t[i]=x at*;obtain ⟨z,rfl⟩:=XV hx.1;have hzl:z<L.length:=by have:=hx.2; omega
   have hzI:(z:Int)<(L.length:Int):=by omega
   have g0:=Qq hzl;have g1:=A27 g0;rw [show ((z:Nat):Int).toNat=z from rfl,Qz,g0,Option.getD_some] at hsn;have hps:A1g (pkL L (t.take i))++[[.int .i64 L[z].1,.int .i64 L[z].2]]=A1g (pkL L (t.take (i+1))):=by rw [hsn]; simp [A1g,C6S]
   generalize L[z]=p at*;obtain ⟨a,b⟩:=p;change (A0p t)[i]? =some [.int .i64 (z:Int)] at e1;simp only at hps g1;generalize hM2:pkL L (t.take (i+1))=M2 at*;generalize pkL L (t.take i)=M1 at*;refine zRc (zc @hltI (zc @e1 (zc @g1 (zc @hzI (zc @hps (zc @A08 (zc @A0e (zc @htl Qv6)))))))) Qv6 @A6v ?_;refine ⟨i+1,Weak.headF 3 36 [1,2,4,5,6,7] (zc @hM2 (zc @htl2 (zc @htl Qv6))) zW,?_,?_⟩
   ·exact hlt
   ·omega
  ·have ei:i=t.length:=by omega
   have hnl: ¬((i:Int)<(t.length:Int)):=by omega
   have eT:t.take i=t:=by rw [ei,Zy]
   rw [eT] at htl ⊢;generalize pkL L t=M at*;refine zR (zc @hnl (zc @A0e Qv6)) (zc hM Qv6) Qv6 ?_;simp [A00,A0z,Blk.cells,ty,Tryz.results144,A0v,A0w,toT,A0d,A0b,A0c,A0a,tG]
def B9T {g:G} (hc:checkG g=0) {t:List Int} (ht: ∀x,x∈t->0≤x∧x<(endsL g.es).length) {u w:Nat}:Conn (endsL (A9T g t).es) u w↔Conn (pkL (endsL g.es) t) u w:=C2C (B4D hc ht)
def B0J {g:G} (hc:checkG g=0) {t:List Int} (ht: ∀x,x∈t->0≤x∧x<(endsL g.es).length) (hl:t.length≤50):checkG (A9T g t)=0∧(A9T g t).es.length≤t.length:=by
 have h:=B9R (A0j.1 hc).1 (B4D hc ht) (by rw [A2x]; exact hl);rw [A2x] at h;exact h
def B7o {g:G} {n:Nat} (hc:checkG g=0) (hn:g.n=n) {t:List Int} (ht: ∀x,x∈t->0≤x∧x<(endsL g.es).length) (hl:t.length≤50):connB (A9T g t)=decide (ncls n (Conn (pkL (endsL g.es) t))=1):=by
 rw [A2W (B0J hc ht hl).1 (n:=n) hn,A2u fun x y _ _=>B9T hc ht]
def C7r (g:G) (t:List Int) (hg:g.es.length≤40) (hc:checkG g=0) (ht: ∀x,x∈t->0≤x∧x<(endsL g.es).length) (hl:t.length≤40):ACall Tryz.prog 85 [tG g,A0q t] (A0x (treeB g.n.toNat (endsL g.es) t)):=by
 have h12:=(A0j.1 hc).1;have hn:g.n=(g.n.toNat:Nat):=by omega
 have hW:=C4N g t hg hc ht (by omega);have hwc:=B0J hc ht (by omega);have hC:=B0I (A9T g t) (by omega) hwc.1;rw [B7o hc hn ht (by omega)] at hC;have eT:treeB g.n.toNat (endsL g.es) t=(decide ((t.length:Int)=g.n-1)&&decide (ncls g.n.toNat (Conn (pkL (endsL g.es) t))=1)):=by
  unfold treeB;rw [Qj9,decide_eq_true_eq,XJ,decide_eq_true_eq,decide_eq_true_eq,<-hn]
 rw [eT];generalize decide (ncls g.n.toNat (Conn (pkL (endsL g.es) t))=1)=b at*;generalize A9T g t=W at*;clear hwc ht eT hn hc hg;obtain ⟨n,es⟩:=g;simp only at h12 ⊢;refine ACall.of_body Tryz.func85 rfl (by kernel_rfl) ?_;simp only [entry,Tryz.ntmps85,tG,A0q];refine zU ?_;by_cases h1:(t.length:Int)=n-1
 ·rw [decide_eq_true h1,VY];refine zR (zc @A0e (zc @h1 Qv6)) (zc hW (zc hC Qv6)) Qv6 ?_;simp [A00,A0z,Blk.cells,ty,Tryz.results85,A0v,A0w,toT,A0d,A0b,A0c,A0a,A0x]
 ·rw [decide_eq_false h1,Qq4];refine zR (zc @A0e (zc @h1 Qv6)) Qv6 Qv6 ?_;simp [A00,A0z,Blk.cells,ty,Tryz.results85,A0v,A0w,toT,A0d,A0b,A0c,A0a,A0x]
def B4E (g:G) (t:List Int) (hg:g.es.length≤40) (hl:t.length<2^40):ACall Tryz.prog 152 [tG g,A0q t] (.tup [A0E (if A7Y g t≠0 then [] else endsL g.es),A0n (A7Y g t)]):=by
 have hJ:=B5H g hg;by_cases hj:A0t g=0
 case neg=>
  have e:A7Y g t=A0t g:=by unfold A7Y; rw [if_pos hj]
  rw [e];rw [if_pos hj] at hJ ⊢;generalize A0t g=E at*;obtain ⟨n,es⟩:=g;refine ACall.of_body Tryz.func152 rfl (by kernel_rfl) ?_;simp only [entry,Tryz.ntmps152,tG,A0q];refine zU ?_;refine zR (zc @hj Qv6) (zc hJ Qv6) Qv6 ?_;simp [A00,A0z,Blk.cells,ty,Tryz.results152,A0v,A0w,toT,A0d,A0b,A0c,A0a,A0n,A0E,A1g]
 have hc:checkG g=0:=by
  unfold A0t at hj;by_cases h:checkG g=0
  ·exact h
  ·rw [if_pos h] at hj; exact absurd hj h
 have h12:=(A0j.1 hc).1;have hE:=B9P g t hg (by omega);unfold C7q at hE;rw [if_neg (by omega)] at hE;have hlen:=A1T hg hc;have eT:A7Y g t=if A47 (endsL g.es).length none t≠0 then A47 (endsL g.es).length none t else if (t.length:Int)≠g.n-1 then 8 else if treeB g.n.toNat (endsL g.es) t=true then 0 else 3:=by unfold A7Y; rw [if_neg (by omega)]
 rw [eT];rw [hj] at hJ;rw [if_neg (by omega)] at hJ;by_cases hs:A47 (endsL g.es).length none t=0
 case neg=>
  have e2:(if A47 (endsL g.es).length none t≠0 then A47 (endsL g.es).length none t else if (t.length:Int)≠g.n-1 then 8 else if treeB g.n.toNat (endsL g.es) t=true then 0 else 3)=A47 (endsL g.es).length none t:=if_pos hs;rw [e2,if_pos hs];generalize A47 (endsL g.es).length none t=E at*;generalize endsL g.es=L at*;clear hc eT e2;obtain ⟨n,es⟩:=g;refine ACall.of_body Tryz.func152 rfl (by kernel_rfl) ?_;simp only [entry,Tryz.ntmps152,tG,A0q];refine zU ?_;refine zR (zc @hs Qv6) (zc hJ (zc hE Qv6)) Qv6 ?_;simp [A00,A0z,Blk.cells,ty,Tryz.results152,A0v,A0w,toT,A0d,A0b,A0c,A0a,A0n,A0E,A1g]
 have hn:g.n=(g.n.toNat:Nat):=by omega
 have hI:=C28 g.n.toNat (endsL g.es) t (by omega) (by omega) (fun p hp=>A2i hc hn p hp) (A72 hs) (by omega) hl;rw [<-hn] at hI;have e2:(if A47 (endsL g.es).length none t≠0 then A47 (endsL g.es).length none t else if (t.length:Int)≠g.n-1 then 8 else if treeB g.n.toNat (endsL g.es) t=true then 0 else 3)=if (t.length:Int)≠g.n-1 then 8 else if treeB g.n.toNat (endsL g.es) t=true then 0 else 3:=if_neg (by omega)
 rw [e2];rw [hs] at hE;generalize treeB g.n.toNat (endsL g.es) t=b at*;generalize endsL g.es=L at*;clear hc eT hs hj hg hn e2;obtain ⟨n,es⟩:=g;simp only at h12 hI ⊢;refine ACall.of_body Tryz.func152 rfl (by kernel_rfl) ?_;simp only [entry,Tryz.ntmps152,tG,A0q];refine zU ?_;by_cases h1:(t.length:Int)=n-1
 ·have h2: ¬((t.length:Int)≠n-1):=by omega
  simp only [if_neg h2];cases b with
  | true=>
   rw [show (if true=true then (0:Int) else 3)=0 from rfl,if_neg (by omega)];refine zR (zc @A0e (zc @h1 Qv6)) (zc hJ (zc hE (zc hI Qv6))) Qv6 ?_;simp [A00,A0z,Blk.cells,ty,Tryz.results152,A0v,A0w,toT,A0d,A0b,A0c,A0a,A0n,A0E]
  | false=>
   rw [show (if false=true then (0:Int) else 3)=3 from rfl,if_pos (by omega)];refine zR (zc @A0e (zc @h1 Qv6)) (zc hJ (zc hE (zc hI Qv6))) Qv6 ?_;simp [A00,A0z,Blk.cells,ty,Tryz.results152,A0v,A0w,toT,A0d,A0b,A0c,A0a,A0n,A0E,A1g]
 ·simp only [if_pos h1];rw [if_pos (by omega)];refine zR (zc @A0e (zc @h1 Qv6)) (zc hJ (zc hE Qv6)) Qv6 ?_;simp [A00,A0z,Blk.cells,ty,Tryz.results152,A0v,A0w,toT,A0d,A0b,A0c,A0a,A0n,A0E,A1g]
def B9U (g:G) (t:List Int) (hg:g.es.length≤40) (hl:t.length<2^40):ACall Tryz.prog 98 [tG g,A0q t] (A0n (A7Y g t)):=by
 have h:=B4E g t hg hl;generalize (if A7Y g t≠0 then [] else endsL g.es)=L at*;generalize A7Y g t=E at*;obtain ⟨n,es⟩:=g;refine ACall.of_body Tryz.func98 rfl (by kernel_rfl) ?_;simp only [entry,Tryz.ntmps98,tG,A0q];refine zU ?_;refine zR Qv6 (zc h Qv6) Qv6 ?_;simp [A00,A0z,Blk.cells,ty,Tryz.results98,A0v,A0w,toT,A0d,A0b,A0c,A0a,A0n]
structure NG (g:G) (n:Nat) (L:List (Nat×Nat)):Prop where
 hn:g.n=n
 h1:1≤n
 h12:n≤12
 ends:endsL g.es=LI L
 lt: ∀p,p∈L->p.1<n∧p.2<n
 len:L.length≤2000
def tB (L:List (Nat×Nat)) (v:Nat) (B:List Nat):Bool:=B.any fun e=>decide ((edL L e).1≠(edL L e).2)&&(decide ((edL L e).1=v)||decide ((edL L e).2=v))
def A6I {R:List Bool} {i:Nat} (h:i<R.length):R[i]? =some (R.getD i false):=by
 rw [Qz,Qq h]; rfl
def B3g (w a:Nat):Nat:=w / 2^a%2
def C7E (w a:Nat) (ha:a≤12):((w:Int)).fdiv (2^min a 64)=((w / 2^a:Nat):Int):=by
 rw [Qq1 (by omega)];have e:(2:Int)^a=((2^a:Nat):Int):=by simp
 rw [e,Int.fdiv_eq_ediv_of_nonneg _ (Int.natCast_nonneg _)];rfl
def C7F (x:Nat) (hx:x<2^40):B6s .and .i64 (x:Int) 1=((x%2:Nat):Int):=by
 have h:(BitVec.ofInt 64 (x:Int)&&&BitVec.ofInt 64 (1:Int)).toNat=x%2:=by
  rw [BitVec.ofInt_natCast,show BitVec.ofInt 64 (1:Int)=BitVec.ofNat 64 1 from rfl,BitVec.toNat_and,BitVec.toNat_ofNat,BitVec.toNat_ofNat,Vj (show x<2^64 by omega),show 1%2^64=1 by decide,Nat.and_one_is_mod]
 show IntKind.i64.wrap (((BitVec.ofInt 64 (x:Int)&&&BitVec.ofInt 64 (1:Int)).toNat:Nat):Int)=_;rw [h];exact wrap_in ⟨by show (-9223372036854775808:Int)≤_; omega,by show _≤(9223372036854775807:Int); omega⟩
def C7G (n:Nat) (h:n≤12):(1:Int)*2^min n 64=((2^n:Nat):Int):=by
 rw [Qq1 (by omega),Int.one_mul]; simp
def C7s {n:Nat} (h:n≤12):2^n≤4096∧1≤2^n:=⟨Qj0 (by omega) h,Nat.one_le_two_pow⟩
def setN (n w:Nat):List Nat:=(List.range n).filter fun v=>decide (B3g w v=1)
def A6J (n w:Nat):setN (n+1) w=if B3g w n=1 then setN n w++[n] else setN n w:=by
 unfold setN;rw [WX,JV];by_cases h:B3g w n=1<;>simp [h]
def A55 (n w:Nat):(setN n w).length≤n:=by unfold setN; exact Yj (Jw _ _) (by simp)
def cutW (w:Nat):List E->Int
 | []=>0
 | e::es=>(if B3g w e.a.toNat=B3g w e.b.toNat then 0 else e.m)+cutW w es
def C2D (n:Nat) (es:List E) (s:Int×List Nat) (w:Nat):Int×List Nat:=
 if w%2=0 then s else if 0≤s.1∧s.1<cutW w es then s else
  if cutW w es<s.1∨s.1<0∨A1M (zI (setN n w)) (zI s.2)<0 then (cutW w es,setN n w) else s
def connW (n:Nat) (es:List E) (k:Nat):Int×List Nat:=(List.range k).foldl (C2D n es) (-1,[])
def C6v (n:Nat) (R:List Bool) (hR:R.length=n) {H:List Blk} (h5:H[5]? =some (.box (bC R))) (h6:H[6]? =some (.box [.ref 5 1 0 n n])) (u:Nat) (hu:u<n):
  ACallH Tryz.prog 186 H [.c (.int .i64 (u:Int)),.c (.ptr 6 0)] H (.c (.bool (R.getD u false))):=by
 have hg:=A6I (R:=R) (i:=u) (by omega);have hb:=B07 hg;generalize R.getD u false=b at*;have huI:(u:Int)<(n:Int):=by omega
 refine ACallH.of_body Tryz.func186 rfl (by kernel_rfl) ?_;simp only [entry,Tryz.ntmps186,List.length_cons,List.length_nil,Nat.reduceAdd,Nat.reduceSub,List.replicate_succ,List.replicate_zero,List.cons_append,List.nil_append];refine zR (zc @h6 (zc @h5 (zc @hb (zc @huI (zc @A1Y (zc @hR (zc @XX Qv6))))))) Qv6 Qv6 ?_;simp [A4O,A2c,A0v,A2b,Tryz.results186]
end Go.Proofs.YtdbdfkohpjefjaaGreat
