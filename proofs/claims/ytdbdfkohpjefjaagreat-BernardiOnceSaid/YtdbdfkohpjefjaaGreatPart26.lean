/- A part of the proof. -/
import Derived.Test.YtdbdfkohpjefjaaGreatPart21
set_option linter.all false
set_option maxHeartbeats 4000000
set_option maxRecDepth 100000
namespace Go.Proofs.YtdbdfkohpjefjaaGreat
open Go.Sp
theorem B0m (g:G) (hl:g.es.length≤40) (hc:checkG g=0):ACall Tryz.prog 86 [tG g] (A0C (endsL g.es)):=by
 have hs:=A9y (g:=g) (by omega) hc;exact B49 g hs.s hs.es hs.m
theorem B5d (g:G) (hl:g.es.length≤40) (hc:checkG g=0) (h:Nat) (hh:h<2*(endsL g.es).length):ACall Tryz.prog 40 [tG g,A0k h] (A0k (atL (endsL g.es) h)):=by
 have hE:=B0m g hl hc;have hlen:=A1B hl hc;have e0:(endsL g.es)[h / 2]? =some (endsL g.es)[h / 2]:=Qq (by omega);have e1:=A20 e0;have ea:atL (endsL g.es) h=if h%2=0 then (endsL g.es)[h / 2].1 else (endsL g.es)[h / 2].2:=by unfold atL; rw [Qz,e0]; rfl
 have hlt:((h / 2:Nat):Int)<(endsL g.es).length:=by omega
 rw [ea];clear ea;generalize (endsL g.es)[h / 2]=p at*;obtain ⟨a,b⟩:=p;generalize endsL g.es=L at*;obtain ⟨n,es⟩:=g;refine ACall.of_body Tryz.func40 rfl (by kernel_rfl) ?_;simp only [entry,Tryz.ntmps40,tG,A0k];refine zU ?_;have hm:h%2=0∨h%2=1:=by omega
 rcases hm with hm | hm
 ·
  refine zR (zc @B8t (zc @B6h (zc @hm (zc @hlt (zc @A02 (zc @e1 Qw9)))))) (zc hE Qw9) Qw9 ?_;simp [A0y,A0x,Blk.cells,ty,Tryz.results40,A0s,A0t,toT,A0d,A0b,A0c,A0a,A0k,hm]
 ·
  refine zR (zc @B8t (zc @B6h (zc @hm (zc @hlt (zc @A02 (zc @e1 Qw9)))))) (zc hE Qw9) Qw9 ?_;simp [A0y,A0x,Blk.cells,ty,Tryz.results40,A0s,A0t,toT,A0d,A0b,A0c,A0a,A0k,hm]
theorem B67 (g:G) (hl:g.es.length≤40) (hc:checkG g=0):ACall Tryz.prog 100 [tG g] (A0k (2*((endsL g.es).length:Int))):=by
 have hs:=A9y (g:=g) (by omega) hc;have hZ:=A32 g hs.s hs.es hs.m;have hlen:=A1B hl hc;generalize endsL g.es=L at*;obtain ⟨n,es⟩:=g;refine ACall.of_body Tryz.func100 rfl (by kernel_rfl) ?_;simp only [entry,Tryz.ntmps100,tG];refine zU ?_;refine zR Qw9 (zc hZ Qw9) Qw9 ?_;simp [A0y,A0x,Blk.cells,ty,Tryz.results100,A0s,A0t,toT,A0d,A0b,A0c,A0a,A0k]
theorem B0n (g:G) (hl:g.es.length≤40) (hc:checkG g=0):ACall Tryz.prog 48 [tG g] (A0z (connB g)):=by
 have h12:=(A0h.1 hc).1;have hP:=B4L g g.n.toNat hc (by omega) (by omega);unfold connB;generalize A1K g.es g.n.toNat g.n.toNat=k at*;have e:decide (k=1)=decide ((k:Int)=1):=decide_eq_decide.2 (by omega);rw [e];obtain ⟨n,es⟩:=g;refine ACall.of_body Tryz.func48 rfl (by kernel_rfl) ?_;simp only [entry,Tryz.ntmps48,tG];refine zU ?_;refine zR Qw9 (zc hP Qw9) Qw9 ?_;simp [A0y,A0x,Blk.cells,ty,Tryz.results48,A0s,A0t,toT,A0d,A0b,A0c,A0a,A0z]
theorem A38 (g:G) (hl:g.es.length≤40):ACall Tryz.prog 43 [tG g] (A0k (A0r g)):=by
 have hC:=A6m g (by omega);unfold A0r;by_cases hc:checkG g=0
 ·have hK:=B0n g hl hc;have hCn:=hK;clear hK;rw [if_neg (by omega)];rw [hc] at hC;generalize connB g=b at*;obtain ⟨n,es⟩:=g;refine ACall.of_body Tryz.func43 rfl (by kernel_rfl) ?_;simp only [entry,Tryz.ntmps43,tG];refine zU ?_;cases b with
  | true=>
   rw [if_pos rfl];refine zR Qw9 (zc hC (zc hCn Qw9)) Qw9 ?_;simp [A0y,A0x,Blk.cells,ty,Tryz.results43,A0s,A0t,toT,A0d,A0b,A0c,A0a,A0k]
  | false=>
   rw [if_neg (by simp)];refine zR Qw9 (zc hC (zc hCn Qw9)) Qw9 ?_;simp [A0y,A0x,Blk.cells,ty,Tryz.results43,A0s,A0t,toT,A0d,A0b,A0c,A0a,A0k]
 ·rw [if_pos hc];generalize checkG g=E at*;obtain ⟨n,es⟩:=g;refine ACall.of_body Tryz.func43 rfl (by kernel_rfl) ?_;simp only [entry,Tryz.ntmps43,tG];refine zU ?_;refine zR (zc @hc Qw9) (zc hC Qw9) Qw9 ?_;simp [A0y,A0x,Blk.cells,ty,Tryz.results43,A0s,A0t,toT,A0d,A0b,A0c,A0a,A0k]
theorem B8Z (g:G) (hl:g.es.length≤40) (hc:checkG g=0) (v:Nat) (hv:(v:Int)<g.n) (l:List Int) (hll:l.length<2^20):
  ACall Tryz.prog 110 [tG g,A0k v,A0m l] (A0k (A1i l (ownL (endsL g.es) (v:Int) (2*(endsL g.es).length)))):=by
 have h12:=(A0h.1 hc).1;have hD:=B60 g g.n.toNat hc (by omega) (by omega) v;rw [C17 hc (by omega) ⟨by omega,by omega⟩] at hD;have hH:=B67 g hl hc;have hA:=fun (h:Nat) (hh:h<2*(endsL g.es).length)=>B5d g hl hc h hh;have hlen:=A1B hl hc;have hs:=A8D (endsL g.es) (v:Int) (2*(endsL g.es).length);have hmem:=fun x=>A1J (L:=endsL g.es) (v:=(v:Int)) (k:=2*(endsL g.es).length) (x:=x);have hol:=A7O (endsL g.es) (v:Int) (2*(endsL g.es).length);generalize ownL (endsL g.es) (v:Int) (2*(endsL g.es).length)=own at*;generalize endsL g.es=L at*;clear hc;obtain ⟨n,es⟩:=g;simp only at hv h12 hl;refine ACall.of_body Tryz.func110 rfl (by kernel_rfl) ?_;simp only [entry,Tryz.ntmps110,tG,A0k,A0m];refine zU ?_;by_cases hlo:l.length=own.length
 case neg=>
  have hI: ¬((l.length:Int)=own.length):=by omega
  have e:A1i l own=8:=by unfold A1i; exact if_pos hlo
  rw [e];refine zR (zc @A0e (zc @hI Qw9)) (zc hD Qw9) Qw9 ?_;simp [A0y,A0x,Blk.cells,ty,Tryz.results110,A0s,A0t,toT,A0d,A0b,A0c,A0a,A0k]
 have hI:((l.length:Int)=own.length):=by omega
 refine zR (zc @A0e (zc @hI Qw9)) (zc hD Qw9) Qw9 ?_;refine AWp.loopS (α:=Nat) 67 (fun i=>[(1,.c (.int .i64 (v:Int))),(2,.c (.slice (A0p l) .none)),(3,.c (.ptr 0 0)),(7,.c (.int .i64 (i:Int)))]) (fun i=>[.box [.int .i64 n,.slice (A0f es) .none]]) (fun i=>i≤l.length∧A3g own [] l=A3g own (l.take i) (l.drop i)) (fun i=>l.length-i) (0) (hk:=Weak.headL 1 67 [1,2,3,7] zW) (h0:=?_) (round:=fun i hI=>?_)
 ·exact ⟨Xj _,rfl⟩
 ·obtain ⟨hi,hI2⟩:=hI;by_cases hlt:i<l.length
  ·have hltI:(i:Int)<own.length:=by omega
   have e0:=Qq hlt;have e1:=A0u e0;have hd:=XV hlt;have htk:l.take (i+1)=l.take i++[l[i]]:=XX hlt;generalize l[i]=x at*;have hm:=hmem x;have hHo:=C1r (l.take i) x (by rw [Wv]; omega);have herr: ¬x∈own->A1i l own=2:=fun hn=>by
    have hg:A3g own [] l=2:=by rw [hI2,hd]; simp only [A3g]; rw [if_neg hn]
    unfold A1i; rw [if_neg (by omega),hg]; rfl
   by_cases hx0:x<0
   ·have e:=herr (fun h=>by have:=hm.1 h; omega);rw [e];refine zR (zc @hltI (zc @hI (zc @A0e (zc @e1 (zc @hx0 Qw9))))) Qw9 Qw9 ?_;simp [A0y,A0x,Blk.cells,ty,Tryz.results110,A0s,A0t,toT,A0d,A0b,A0c,A0a,A0k]
   by_cases hx1:2*(L.length:Int)≤x
   ·have e:=herr (fun h=>by have:=hm.1 h; omega);rw [e];refine zR (zc @hltI (zc @hI (zc @A0e (zc @e1 (zc @hx0 (zc @hx1 Qw9)))))) (zc hH Qw9) Qw9 ?_;simp [A0y,A0x,Blk.cells,ty,Tryz.results110,A0s,A0t,toT,A0d,A0b,A0c,A0a,A0k]
   obtain ⟨y,rfl⟩:=XW (show 0≤x by omega);have hyl:y<2*L.length:=by omega
   have hAy:=hA y hyl;rw [Int.toNat_natCast] at hm;by_cases hav:atL L y=v
   case neg=>
    have e:=herr (fun h=>hav (hm.1 h).2.2);rw [e];generalize atL L y=a at*;refine zR (zc @hltI (zc @hI (zc @A0e (zc @e1 (zc @hx0 (zc @hx1 (zc @hav Qw9))))))) (zc hH (zc hAy Qw9)) Qw9 ?_;simp [A0y,A0x,Blk.cells,ty,Tryz.results110,A0s,A0t,toT,A0d,A0b,A0c,A0a,A0k]
   have hin:(y:Int)∈own:=hm.2 ⟨by omega,by omega,hav⟩;rw [hav] at hAy;by_cases hc:(y:Int)∈l.take i
   ·have hg:A3g own [] l=7:=by rw [hI2,hd]; simp only [A3g]; rw [if_pos hin,if_pos hc]
    have e:A1i l own=7:=by unfold A1i; rw [if_neg (by omega),hg]; rfl
    rw [e];rw [decide_eq_true hc] at hHo;refine zR (zc @hltI (zc @hI (zc @A0e (zc @e1 (zc @hx0 (zc @hx1 (zc @A5n (zc @ZX (zc @hlt Qw9))))))))) (zc hH (zc hAy (zc hHo Qw9))) @A1p ?_;simp [A0y,A0x,Blk.cells,ty,Tryz.results110,A0s,A0t,toT,A0d,A0b,A0c,A0a,A0k]
   ·rw [decide_eq_false hc] at hHo;refine zR (zc @hltI (zc @hI (zc @A0e (zc @e1 (zc @hx0 (zc @hx1 (zc @A5n (zc @ZX (zc @hlt Qw9))))))))) (zc hH (zc hAy (zc hHo Qw9))) @A1p ?_;refine ⟨i+1,Weak.headN 1 67 [1,2,3,7] zW,?_,?_⟩
    ·refine ⟨hlt,?_⟩;rw [hI2,hd,A9Z hin hc,<-htk]
    ·omega
  ·have ei:i=l.length:=by omega
   have hg:A3g own [] l=0:=by rw [hI2,ei,Vk]; rfl
   have hnl: ¬((i:Int)<own.length):=by omega
   have hh:=C5n hg hlo hs;have herr:A1i l own=if l≠[]∧l.getD 0 0≠own.getD 0 0 then 9 else 0:=by unfold A1i; rw [if_neg (by omega),if_neg (by omega)]
   refine zR (zc @hnl (zc @A0e (zc @hI Qw9))) Qw9 Qw9 ?_;refine AWp.loopS (α:=Nat) 67 (fun j=>[(2,.c (.slice (A0p l) .none)),(8,.c (.int .i64 ((j:Int)+1)))]) (fun j=>[]) (fun j=>∀ k x,k≤j->l[k]? =some x-> ¬x<l.getD 0 0) (fun j=>l.length-j) (0) (hk:=Weak.headL 0 67 [2,8] zW) (h0:=?_) (round:=fun j hI=>?_)
   ·intro k x hk hx;have:k=0:=by omega
    subst this;rw [Qz,hx]; simp
   ·have hinv:=hI;clear hI;by_cases hltj:j+1<l.length
    ·have hltJ:(j:Int)+1<own.length:=by omega
     have f0:=Qq hltj;have f1:=A0u f0;have g0:=Qq (show 0<l.length by omega);have g1:=A0u g0;have hgd:l.getD 0 0=l[0]:=by rw [Qz,g0]; rfl
     have ht:((j:Int)+1).toNat=j+1:=by omega
     have hml:=Xw hltj;have hoI:(0:Int)<own.length:=by omega
     generalize l[j+1]=x at*;generalize l[0]=z at*;by_cases hxz:x<z
     ·have e:A1i l own=9:=by rw [herr,if_pos]; exact hh.2 ⟨x,hml,by rw [hgd]; exact hxz⟩
      rw [e];refine zR (zc @hltJ (zc @hI (zc @A0e (zc @f1 (zc @g1 (zc @ht (zc @Int.toNat_zero (zc @hxz (zc @hoI Qw9))))))))) Qw9 Qw9 ?_;simp [A0y,A0x,Blk.cells,ty,Tryz.results110,A0s,A0t,toT,A0d,A0b,A0c,A0a,A0k]
     ·have hxz2:z≤x:=by omega
      refine zR (zc @hltJ (zc @hI (zc @A0e (zc @f1 (zc @g1 (zc @ht (zc @Int.toNat_zero (zc @hxz (zc @hoI Qw9))))))))) Qw9 Qw9 ?_;refine ⟨j+1,Weak.headN 0 67 [2,8] zW,?_,?_⟩
      ·intro k y hk hy;by_cases e:k=j+1
       ·subst e;rw [f0] at hy;cases hy;rw [hgd]; exact hxz
       ·exact hinv k y (by omega) hy
      ·omega
    ·have hnlj: ¬((j:Int)+1<own.length):=by omega
     have e:A1i l own=0:=by
      rw [herr,if_neg];intro h;obtain ⟨x,hx,hlt⟩:=hh.1 h;obtain ⟨k,hk,rfl⟩:=YJ.1 hx;exact hinv k _ (by omega) (Qq hk) hlt
     rw [e];refine zR (zc @hnlj (zc @hI (zc @A0e Qw9))) Qw9 Qw9 ?_;simp [A0y,A0x,Blk.cells,ty,Tryz.results110,A0s,A0t,toT,A0d,A0b,A0c,A0a,A0k]
theorem B3O (r:R) (hs:RSm r):ACall Tryz.prog 67 [tR r] (A0k (ribE r)):=by
 have hJ:=A38 r.g hs.es;by_cases hj:A0r r.g=0
 case neg=>
  have e:ribE r=A0r r.g:=by unfold ribE; rw [if_pos hj]
  rw [e];clear e;generalize A0r r.g=E at*;obtain ⟨n,es,ar⟩:=r;refine ACall.of_body Tryz.func67 rfl (by kernel_rfl) ?_;simp only [entry,Tryz.ntmps67,tR];refine zU ?_;refine zR (zc @hj Qw9) (zc hJ Qw9) Qw9 ?_;simp [A0y,A0x,Blk.cells,ty,Tryz.results67,A0s,A0t,toT,A0d,A0b,A0c,A0a,A0k]
 have hc:checkG r.g=0:=by
  unfold A0r at hj;by_cases h:checkG r.g=0
  ·exact h
  ·rw [if_pos h] at hj; exact absurd hj h
 have h12:1≤r.n∧r.n≤12:=(A0h.1 hc).1;have eR:ribE r=if (r.ar.length:Int)≠r.n then 8 else A52 (endsL r.es) (2*(endsL r.es).length) 0 r.ar:=by unfold ribE; rw [if_neg (by omega)]
 rw [eR];rw [hj] at hJ;have hAr:=fun (v:Nat) (hv:(v:Int)<r.n) (l:List Int) (hl:l.length<2^20)=>B8Z r.g hs.es hc v hv l hl;have hLl:=hs.l;have hA:=hs.ar;clear hs hj hc eR;obtain ⟨n,es,ar⟩:=r;simp only [R.g] at hJ hAr h12 hLl hA ⊢;generalize hL:endsL es=L at*;obtain ⟨k,rfl⟩:=XW (show 0≤n by omega);refine ACall.of_body Tryz.func67 rfl (by kernel_rfl) ?_;simp only [entry,Tryz.ntmps67,tR];refine zU ?_;by_cases hlen2:ar.length=k
 case neg=>
  have hI: ¬((ar.length:Int)=k):=by omega
  rw [if_pos hI];refine zR (zc @A0o (zc @hI Qw9)) (zc hJ Qw9) Qw9 ?_;simp [A0y,A0x,Blk.cells,ty,Tryz.results67,A0s,A0t,toT,A0d,A0b,A0c,A0a,A0k]
 have hI:(ar.length:Int)=k:=by omega
 rw [if_neg (show ¬((ar.length:Int)≠(k:Int)) by omega)];refine zR (zc @A0o (zc @hI Qw9)) (zc hJ Qw9) Qw9 ?_;refine AWp.loopS (α:=Nat) 38 (fun i=>[(1,.c (.ptr 0 0)),(4,.c (.int .i64 (i:Int)))]) (fun i=>[.box [.int .i64 (k:Int),.slice (A0f es) .none,.slice (A00 ar) .none]]) (fun i=>i≤k∧A52 L (2*L.length) 0 ar=A52 L (2*L.length) i (ar.drop i)) (fun i=>k-i) (0) (hk:=Weak.headL 1 38 [1,4] zW) (h0:=?_) (round:=fun i hI=>?_)
 ·exact ⟨Xj _,rfl⟩
 ·obtain ⟨hi,hI2⟩:=hI;by_cases hlt:i<k
  ·have hltI:(i:Int)<k:=by omega
   have hil:i<ar.length:=by omega
   have e0:=Qq hil;have e1:=A0W e0;have hd:=XV hil;have hl:=hLl _ (Xw hil);generalize ar[i]=l at*;have hlist:=hAr i hltI l hl;have hg:A52 L (2*L.length) i (l::ar.drop (i+1))=if A1i l (ownL L (i:Int) (2*L.length))≠0 then A1i l (ownL L (i:Int) (2*L.length)) else A52 L (2*L.length) (i+1) (ar.drop (i+1)):=rfl
   rw [<-hd,<-hI2] at hg;generalize A1i l (ownL L (i:Int) (2*L.length))=E at*;by_cases hE:E=0
   ·rw [if_neg (by omega)] at hg;subst hE;refine zR (zc @hltI (zc @A0o (zc @hI (zc @e1 Qw9)))) (zc hlist Qw9) Qw9 ?_;refine ⟨i+1,Weak.headN 1 38 [1,4] zW,?_,?_⟩
    ·exact ⟨hlt,hg⟩
    ·omega
   ·rw [if_pos hE] at hg;rw [hg];refine zR (zc @hltI (zc @A0o (zc @hI (zc @e1 (zc @hE Qw9))))) (zc hlist Qw9) Qw9 ?_;simp [A0y,A0x,Blk.cells,ty,Tryz.results67,A0s,A0t,toT,A0d,A0b,A0c,A0a,A0k]
  ·have ei:i=k:=by omega
   subst ei;have hz:A52 L (2*L.length) 0 ar=0:=by rw [hI2,JZ (by omega)]; rfl
   have hnl: ¬((i:Int)<i):=by omega
   rw [hz];refine zR (zc @hnl Qw9) Qw9 Qw9 ?_;simp [A0y,A0x,Blk.cells,ty,Tryz.results67,A0s,A0t,toT,A0d,A0b,A0c,A0a,A0k]
end Go.Proofs.YtdbdfkohpjefjaaGreat
