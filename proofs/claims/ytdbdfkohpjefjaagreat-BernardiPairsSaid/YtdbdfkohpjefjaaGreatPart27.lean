/- A part of the proof. -/
import Derived.Test.YtdbdfkohpjefjaaGreatPart24
import Derived.Test.YtdbdfkohpjefjaaGreatPart26
set_option linter.all false
set_option maxHeartbeats 4000000
set_option maxRecDepth 100000
namespace Go.Proofs.YtdbdfkohpjefjaaGreat
open Go.Sp
def A3t {m f i j:Nat} (h:i<m):A6o m (.fn f [.ptr i j]):=fun c hc=>by rw [Zq] at hc; subst hc; exact h
noncomputable def A8v (d:List Int) (s:List Nat):Int:=(s.map fun v=>d.getD v 0).sum
def C0H (d:List Int) {s:List Nat} {i v:Nat} (h:s[i]? =some v):A8v d (s.take (i+1))=A8v d (s.take i)+d.getD v 0:=by
 unfold A8v;rw [List.take_add_one,h,WY,List.sum_append]; simp
def C0I {d:List Int} (hd: ∀v,v<d.length-> -1000000000000≤d.getD v 0∧d.getD v 0≤1000000000000): ∀{s:List Nat},(∀v,v∈s->v<d.length)-> -1000000000000*(s.length:Int)≤A8v d s∧A8v d s≤1000000000000*(s.length:Int)
 | [],_=>by simp [A8v]
 | v::s,h=>by
  have h1:=hd v (h v List.mem_cons_self);have h2:=C0I hd (s:=s) fun x hx=>h x (YW _ hx);have e:A8v d (v::s)=d.getD v 0+A8v d s:=by simp [A8v]
  rw [e,List.length_cons]; omega
def B75 (d:List Int) (hdl:d.length≤4096) (hd: ∀v,v<d.length-> -1000000000000≤d.getD v 0∧d.getD v 0≤1000000000000) (s:List Nat) (hs: ∀v,v∈s->v<d.length) (hl:s.length≤4096) {H:List Blk} (n:Int) (es:List E) (hH:H=[.box [.int .i64 n,.slice (A0f es) .none],.box [.slice (A0p d) .none],.box [.bool false],.box [.fn 108 [.ptr 1 0]]]):
  ACallH Tryz.prog 108 H [.c (.slice (A0p (zI s)) .none),.c (.ptr 1 0)] H (.c (.int .i64 (A8v d s))):=by
 subst hH;have hzl:=A3C s;have hb:=fun i=>C0I hd (s:=s.take i) fun v hv=>hs v (Vy hv);refine ACallH.of_body Tryz.func108 rfl (by kernel_rfl) ?_;simp only [entry,Tryz.ntmps108,List.length_cons,List.length_nil,Nat.reduceAdd,Nat.reduceSub,List.replicate_succ,List.replicate_zero,List.cons_append,List.nil_append];refine zR (zc @A0e (zc @hzl Qv6)) Qv6 Qv6 ?_;refine AWp.loopS (α:=Nat) 21 (fun i=>[(1,.c (.ptr 1 0)),(4,.c (.int .i64 (A8v d (s.take i)))),(7,.c (.slice (A0p (zI s)) .none)),(8,.c (.int .i64 (s.length:Int))),(9,.c (.int .i64 (i:Int)))]) (fun i=>[.box [.int .i64 n,.slice (A0f es) .none],.box [.slice (A0p d) .none],.box [.bool false],.box [.fn 108 [.ptr 1 0]]]) (fun i=>i≤s.length) (fun i=>s.length-i) (0) (hk:=Weak.headL 4 21 [1,4,7,8,9] (by (repeat' (first | exact A0m _ | exact A0s _ | exact A0i _ | refine Qv5 ?_ ?_ | refine A0k ?_ ?_ | refine A0l ?_ ?_ | refine A0h ?_ ?_ | exact Qv4 | exact A3t (by omega) | (show _<_; omega) | exact A0r (fun _=>Qv4) | (intro c hc; cases hc; done) | (intro c hc; simp only [Qw,Qv,or_false] at hc; subst hc; first | exact Qv4 | exact A3t (by omega) | (show _<_; omega)) | (intro c hc; simp only [Qw,Qv,or_false] at hc; rcases hc with rfl | rfl<;>first | exact Qv4 | exact A3t (by omega) | (show _<_; omega)))))) (h0:=?_) (round:=fun i hI=>?_)
 ·exact Xw _
 ·have hi:i≤s.length:=hI;clear hI;by_cases hlt:i<s.length
  ·have hltI:(i:Int)<(s.length:Int):=by omega
   have e0:=Qq hlt;have hv:=hs _ (Xk hlt);have e1:(A0p (zI s))[i]? =some [.int .i64 (s[i]:Int)]:=by
    have:(zI s)[i]? =some (s[i]:Int):=by unfold zI; rw [QW,e0]; rfl
    exact A0y this
   have e2:(A0p d)[s[i]]? =some [.int .i64 (d.getD s[i] 0)]:=A0y (by rw [Qz,Qq hv]; rfl);have e3:=C0H d e0;have hb0:=hb i;have hb1:=hb (i+1);rw [YV] at hb0 hb1;have hvI:(s[i]:Int)<(d.length:Int):=by omega
   rw [e3] at hb1;generalize s[i]=v at*;generalize hA:A8v d (s.take (i+1))=A1 at*;generalize A8v d (s.take i)=A at*;generalize d.getD v 0=x at*;refine zR (zc @hltI (zc @A0e (zc @hzl (zc @e1 (zc @e2 (zc @hvI Qv6)))))) Qv6 Qv6 ?_;refine ⟨i+1,Weak.headN 4 21 [1,4,7,8,9] (by (repeat' (first | exact A0m _ | exact A0s _ | exact A0i _ | refine Qv5 ?_ ?_ | refine A0k ?_ ?_ | refine A0l ?_ ?_ | refine A0h ?_ ?_ | exact Qv4 | exact A3t (by omega) | (show _<_; omega) | exact A0r (fun _=>Qv4) | (intro c hc; cases hc; done) | (intro c hc; simp only [Qw,Qv,or_false] at hc; subst hc; first | exact Qv4 | exact A3t (by omega) | (show _<_; omega)) | (intro c hc; simp only [Qw,Qv,or_false] at hc; rcases hc with rfl | rfl<;>first | exact Qv4 | exact A3t (by omega) | (show _<_; omega))))),?_,?_⟩
   ·exact hlt
   ·omega
  ·have ei:i=s.length:=by omega
   rw [ei,Zy];have hnl: ¬((s.length:Int)<(s.length:Int)):=by omega
   refine zR (zc @hnl (zc @hzl Qv6)) Qv6 Qv6 ?_;simp [A4O,A2c,A0v,A2b,Tryz.results108]
def B4R (g:G):ACall Tryz.prog 109 [tG g] (.t (.fn 155 [.rptr [.int .i64 g.n,.slice (A0f g.es)]])):=by
 obtain ⟨n,es⟩:=g;refine ACall.of_body Tryz.func109 rfl (by kernel_rfl) ?_;simp only [entry,Tryz.ntmps109,tG];refine zU ?_;refine zR Qv6 Qv6 Qv6 ?_;simp [A00,A0z,Blk.cells,ty,Tryz.results109,A0v,A0w,toT,A0d,A0b,A0c,A0a]
noncomputable def B7V (g:G) (w:Nat):Int:=C1l (endsL (indW g w).es)
noncomputable def okS (g:G) (d:List Int) (w:Nat):Bool:= !(decide (A8v d (setN g.n.toNat w)<B7V g w)||(decide (((setN g.n.toNat w).length:Int)=g.n)&& !decide (A8v d (setN g.n.toNat w)=B7V g w)))
noncomputable def C3a (g:G) (d:List Int):Bool:=(A5h g (2^g.n.toNat-1)).all (okS g d)
def C7T:A01 Tryz.prog 140=some 1:=by kernel_rfl
def C7U:A09 Tryz.prog 140=some .nilFunc:=by kernel_rfl
def C0J (g:G) (d:List Int) (hI:IndOk g) (h1:1≤g.n∧g.n≤12) (hl:g.es.length≤40) (hdl:d.length=g.n.toNat) (hd: ∀v,v<d.length-> -1000000000000≤d.getD v 0∧d.getD v 0≤1000000000000):
  ACall Tryz.prog 64 [tG g,A0q d] (A0x (C3a g d)):=by
 have hS:=B4R g;have hIt:=B4P g hI h1 hl;have hinv:=fun k ts h=>C5o (g:=g) (m:=2^g.n.toNat-1) (k:=k) (ts:=ts) h;have hlenI:=C05 g (2^g.n.toNat-1);have hsub: ∀w v,v∈setN g.n.toNat w->v<d.length:=fun w v hv=>by
  have:(v:Int)∈zI (setN g.n.toNat w):=by unfold zI; exact QJ.2 ⟨v,hv,rfl⟩
  obtain ⟨a,e,ha,-⟩:=B6c.1 this;omega
 have hsl:=fun w=>A55 g.n.toNat w;have hB:=fun w=>B75 d (by omega) hd (setN g.n.toNat w) (hsub w) (by have:=hsl w; omega) g.n g.es rfl;have hok: ∀w,okS g d w= !(decide (A8v d (setN g.n.toNat w)<B7V g w)||(decide (((setN g.n.toNat w).length:Int)=g.n)&& !decide (A8v d (setN g.n.toNat w)=B7V g w))):=fun _=>rfl;have hgw: ∀w,C1l (endsL (indW g w).es)=B7V g w:=fun _=>rfl;have hzl:=fun w=>A3C (setN g.n.toNat w);unfold C3a;simp only [hgw] at hinv;generalize okS g d=oS at*;generalize B7V g=gW at*;generalize itS g (2^g.n.toNat-1)=xs at*;generalize A5h g (2^g.n.toNat-1)=ws at*;generalize setN g.n.toNat=sN at*;clear hI hgw hsub;obtain ⟨n,es⟩:=g;simp only at*;refine ACall.of_body Tryz.func64 rfl (by kernel_rfl) ?_;simp only [entry,Tryz.ntmps64,tG,A0q];refine zU ?_;refine zR (zc @C7T (zc @C7U Qv6)) (zc hS Qv6) Qv6 ?_;refine AWp.weak (Weak.head (m:=4) (by omega) ((fun t f=>[f,f,t,f,t,t,f,f,f,f,f,t,f,f,f,f,f,f,f,f,f,f,f,f,f,f,f,f,f,f,f,f]) true false) (by first | rfl | simp [mask]) (by first | rfl | simp) (by (repeat' (first | exact A0m _ | refine A0k ?_ ?_ | refine A0h ?_ ?_ | exact A0i _ | exact Qv4 | (show _<_; omega) | (intro c hc; cases hc; done) | (intro c hc; simp only [Qw,Qv,or_false] at hc; subst hc; first | exact Qv4 | (show _<_; omega)) | (intro c hc; simp only [Qw,Qv,or_false] at hc; rcases hc with rfl | rfl<;>first | exact Qv4 | (show _<_; omega))))) (by (repeat' (first | exact A0m _ | exact A0s _ | exact A0i _ | refine Qv5 ?_ ?_ | refine A0k ?_ ?_ | refine A0l ?_ ?_ | refine A0h ?_ ?_ | exact Qv4 | exact A3t (by omega) | (show _<_; omega) | exact A0r (fun _=>Qv4) | (intro c hc; cases hc; done) | (intro c hc; simp only [Qw,Qv,or_false] at hc; subst hc; first | exact Qv4 | exact A3t (by omega) | (show _<_; omega)) | (intro c hc; simp only [Qw,Qv,or_false] at hc; rcases hc with rfl | rfl<;>first | exact Qv4 | exact A3t (by omega) | (show _<_; omega)))))) (AWp.rangeFunc (fun k H=>H=[.box [.int .i64 n,.slice (A0f es) .none],.box [.slice (A0p d) .none],.box [.bool false],.box [.fn 108 [.ptr 1 0]]]∧((ws.take k).all oS=true)) (fun e H=>e= .ret∧H=[.box [.int .i64 n,.slice (A0f es) .none],.box [.slice (A0p d) .none],.box [.bool false],.box [.fn 108 [.ptr 1 0]]]∧ws.all oS=false) 4 rfl (hIt) (fun k ts hts=>by obtain ⟨_,_,rfl⟩:=hinv _ _ hts; rfl) (by omega) (by (repeat' (first | exact A0m _ | refine A0k ?_ ?_ | refine A0h ?_ ?_ | exact A0i _ | exact Qv4 | (show _<_; omega) | (intro c hc; cases hc; done) | (intro c hc; simp only [Qw,Qv,or_false] at hc; subst hc; first | exact Qv4 | (show _<_; omega)) | (intro c hc; simp only [Qw,Qv,or_false] at hc; rcases hc with rfl | rfl<;>first | exact Qv4 | (show _<_; omega))))) (by rintro _ _ ⟨rfl,-⟩; simp) ?_ ?_ (fun l k ts H hts hI=> ?_) (fun H hI=> ?_) (fun e H hX=> ?_))
 ·rintro _ _ ⟨-,rfl,-⟩; simp
 ·exact ⟨rfl,rfl⟩
 ·obtain ⟨rfl,hp⟩:=hI;obtain ⟨w,hw,rfl⟩:=hinv _ _ hts;have hB1:=hB w;have ho:=hok w;have hz1:=hzl w;have htk:ws.take (k+1)=ws.take k++[w]:=by rw [List.take_add_one,hw]; rfl
  generalize gW w=gw at*;generalize A8v d (sN w)=sm at*;have hall:oS w=false->ws.all oS=false:=fun h=>by
   rw [List.all_eq_false];exact ⟨w,Qy hw,by rw [h]; simp⟩
  by_cases hc:sm<gw
  ·rw [decide_eq_true hc] at ho;simp only [mask,A43,List.zip_cons_cons,Jk,List.zip_nil_left,List.foldl_cons,List.foldl_nil,List.set_cons_succ,List.set_cons_zero,ofT,A3u,A02,XQ,ZX,ofT,A3u,toT,A0w,A0a,A0n,A0x,A3v,tG,A0E,A0q,A0S];refine zJ Qv6 (zc @hc Qv6) Qv6 (zc hB1 Qv6) Qv6 ?_;refine ⟨_,Weak.refl _ _,rfl,rfl,hall ho⟩
  ·rw [decide_eq_false hc] at ho;by_cases h2:((sN w).length:Int)=n
   ·rw [decide_eq_true h2] at ho;by_cases h3:sm=gw
    ·rw [decide_eq_true h3] at ho;simp only [mask,A43,List.zip_cons_cons,Jk,List.zip_nil_left,List.foldl_cons,List.foldl_nil,List.set_cons_succ,List.set_cons_zero,ofT,A3u,A02,XQ,ZX,ofT,A3u,toT,A0w,A0a,A0n,A0x,A3v,tG,A0E,A0q,A0S];refine zJ Qv6 (zc @hc (zc @h2 (zc @h3 (zc @A0e (zc @hz1 Qv6))))) Qv6 (zc hB1 Qv6) Qv6 ?_;refine ⟨⟨_,_⟩,Weak.head2 (m:=4) (by decide) ((fun t f=>[f,f,f,f,f,f,f,f,f,f,f,f,f,f,f,f,f,f,f,f,f,f,f,f,f,f,f,f,f,f,f,f]) true false) rfl rfl (by (repeat' (first | exact A0m _ | exact A0s _ | exact A0i _ | refine Qv5 ?_ ?_ | refine A0k ?_ ?_ | refine A0l ?_ ?_ | refine A0h ?_ ?_ | exact Qv4 | exact A3t (by omega) | (show _<_; omega) | exact A0r (fun _=>Qv4) | (intro c hc; cases hc; done) | (intro c hc; simp only [Qw,Qv,or_false] at hc; subst hc; first | exact Qv4 | exact A3t (by omega) | (show _<_; omega)) | (intro c hc; simp only [Qw,Qv,or_false] at hc; rcases hc with rfl | rfl<;>first | exact Qv4 | exact A3t (by omega) | (show _<_; omega))))),?_,?_⟩
     ·rfl
     ·rw [htk,List.all_append,hp,List.all_cons,ho]; rfl
    ·rw [decide_eq_false h3] at ho;simp only [mask,A43,List.zip_cons_cons,Jk,List.zip_nil_left,List.foldl_cons,List.foldl_nil,List.set_cons_succ,List.set_cons_zero,ofT,A3u,A02,XQ,ZX,ofT,A3u,toT,A0w,A0a,A0n,A0x,A3v,tG,A0E,A0q,A0S];refine zJ Qv6 (zc @hc (zc @h2 (zc @h3 (zc @A0e (zc @hz1 Qv6))))) Qv6 (zc hB1 Qv6) Qv6 ?_;refine ⟨_,Weak.refl _ _,rfl,rfl,hall ho⟩
   ·rw [decide_eq_false h2] at ho;simp only [mask,A43,List.zip_cons_cons,Jk,List.zip_nil_left,List.foldl_cons,List.foldl_nil,List.set_cons_succ,List.set_cons_zero,ofT,A3u,A02,XQ,ZX,ofT,A3u,toT,A0w,A0a,A0n,A0x,A3v,tG,A0E,A0q,A0S];refine zJ Qv6 (zc @hc (zc @h2 (zc @A0e (zc @hz1 Qv6)))) Qv6 (zc hB1 Qv6) Qv6 ?_;refine ⟨⟨_,_⟩,Weak.head2 (m:=4) (by decide) ((fun t f=>[f,f,f,f,f,f,f,f,f,f,f,f,f,f,f,f,f,f,f,f,f,f,f,f,f,f,f,f,f,f,f,f]) true false) rfl rfl (by (repeat' (first | exact A0m _ | exact A0s _ | exact A0i _ | refine Qv5 ?_ ?_ | refine A0k ?_ ?_ | refine A0l ?_ ?_ | refine A0h ?_ ?_ | exact Qv4 | exact A3t (by omega) | (show _<_; omega) | exact A0r (fun _=>Qv4) | (intro c hc; cases hc; done) | (intro c hc; simp only [Qw,Qv,or_false] at hc; subst hc; first | exact Qv4 | exact A3t (by omega) | (show _<_; omega)) | (intro c hc; simp only [Qw,Qv,or_false] at hc; rcases hc with rfl | rfl<;>first | exact Qv4 | exact A3t (by omega) | (show _<_; omega))))),?_,?_⟩
    ·rfl
    ·rw [htk,List.all_append,hp,List.all_cons,ho]; rfl
 ·obtain ⟨rfl,hp⟩:=hI;rw [hlenI,Zy] at hp;rw [hp];simp only [mask];refine zR Qv6 Qv6 Qv6 ?_;simp [A00,A0z,Blk.cells,ty,Tryz.results64,A0v,A0w,toT,A0d,A0b,A0c,A0a,A0x]
 ·obtain ⟨rfl,rfl,hp⟩:=hX;rw [hp];simp only [A12,A2E,mask];simp [A00,A0z,Blk.cells,ty,Tryz.results64,A0v,A0w,toT,A0d,A0b,A0c,A0a,A0x]
def pW (w:Nat) (v:Int):Bool:=decide (B3g w v.toNat=1)
def aW (w:Nat) (v:Nat):Bool:=decide (B3g w v=1)
def B0T (n w:Nat):zI (setN n w)=inL (pW w) n:=by
 unfold zI setN inL;rw [List.filter_map];congr 1
def C0K {n w:Nat} (h1:1≤w) (h2:w<2^n): ∃v,v<n∧B3g w v=1:=by
 refine Xq fun hno=> ?_;have:w=0:=Nat.eq_of_testBit_eq fun i=>by
  rw [Nat.zero_testBit];by_cases hi:i<n
  ·by_cases hb:w.testBit i=true
   ·exact absurd ⟨i,hi,(A4c w i).2 hb⟩ hno
   ·simpa using hb
  ·exact Qx9 (ZW h2 (Qj0 (by omega) (by omega)))
 omega
def C0L {n w:Nat} (h1:1≤w) (h2:w<2^n):inL (pW w) n≠[]:=by
 obtain ⟨v,hv,hb⟩:=C0K h1 h2;intro e;have:(v:Int)∈inL (pW w) n:=A9p.2 ⟨⟨by omega,by omega⟩,by unfold pW; rw [Int.toNat_natCast]; exact decide_eq_true hb⟩;rw [e] at this; cases this
def C68 {g:G} (hc:checkG g=0) (hl:g.es.length≤40):IndOk g:=by
 have hn:g.n=(g.n.toNat:Int):=by have:=(A0j.1 hc).1; omega
 refine ⟨fun w h1 h2=> ?_,fun w h1 h2=> ?_,fun w h1 h2=> ?_⟩
 all_goals have D:=(B4w hc hn (pW w)).2.2.2.2 (C0L h1 h2)
 ·rw [B0T]; exact D.1
 ·unfold indW; rw [B0T]; exact D.2.1
 ·unfold indW; rw [B0T]; have:=D.2.2.1; omega
def A9E {L:List (Int×Int)} {n:Nat} (h: ∀p,p∈L->(0≤p.1∧p.1<n)∧(0≤p.2∧p.2<n)):B1B L (gR L)∧ ∀x,x<2*L.length->gR L x<n:=by
 refine ⟨fun k hk=> ?_,fun x hx=> ?_⟩
 ·have hp:=h _ (Xk hk);rw [Qq hk];unfold gR atL;rw [if_pos (by omega),if_neg (by omega),show (2*k) / 2=k by omega,show (2*k+1) / 2=k by omega,Qz,Qq hk,Option.getD_some];refine congrArg some (Prod.ext ?_ ?_)
  ·show L[k].1=((L[k].1.toNat:Nat):Int); omega
  ·show L[k].2=((L[k].2.toNat:Nat):Int); omega
 ·have hk:x / 2<L.length:=by omega
  have hp:=h _ (Xk hk);unfold gR atL;rw [Qz,Qq hk,Option.getD_some];split<;>omega
def B0U (F:Nat->Int): ∀n,sumR F (n+1)=F 0+sumR (fun i=>F (i+1)) n
 | 0=>by simp [sumR]
 | n+1=>by
  have h:=B0U F n;show sumR F (n+1)+F (n+1)=F 0+(sumR (fun i=>F (i+1)) n+F (n+1));omega
def B3y (q:Int->Bool): ∀L:List (Int×Int),A45 q L=sumR (fun e=>if q (L.getD e (0,0)).1=true∧q (L.getD e (0,0)).2=true then 1 else 0) L.length
 | []=>rfl
 | p::L=>by
  have ih:=B3y q L;rw [A45,ih,List.length_cons,B0U];rfl
def B4S (d:List Int) (w:Nat): ∀n,chA n (fun v=>d.getD v 0) (aW w)=A8v d (setN n w)
 | 0=>rfl
 | n+1=>by
  have h:=B4S d w n;unfold chA at h ⊢;rw [sumR,h,A6J];unfold aW A8v;by_cases hb:B3g w n=1
  ·rw [if_pos hb,if_pos (decide_eq_true hb)]; simp
  ·rw [if_neg hb,if_neg (by simpa using hb)]; simp
def B6g (w:Nat): ∀n,B2c n (aW w)=(setN n w).length
 | 0=>rfl
 | n+1=>by
  have h:=B6g w n;unfold B2c at h ⊢;rw [sumR,h,A6J];unfold aW;by_cases hb:B3g w n=1
  ·rw [if_pos hb,if_pos (decide_eq_true hb)]; simp
  ·rw [if_neg hb,if_neg (by simpa using hb)]; simp
section
variable {g:G} {n w:Nat}
def C69 (hc:checkG g=0) (hn:g.n=n) (h1:1≤w) (h2:w<2^n):indW g w=⟨(inL (pW w) n).length,(g.es.filter (A29 (A1C (inL (pW w) n)))).map (B0A (A1C (inL (pW w) n)))⟩:=by
 obtain ⟨q1,q2,q3⟩:=A0j.1 hc;have hF:B4t (A1C (inL (pW w) n)):=fun u v hu hv huv=>A9r (A53 _ _) hu hv huv;have D:=(B4w hc hn (pW w)).2.2.2.2 (C0L h1 h2);unfold indW;rw [show g.n.toNat=n by omega,B0T];unfold B7O;rw [if_neg (by rw [D.1]; simp),B54 hF (fun x hx=>by have:=q2 x hx; unfold okE at this; omega) q3]
def C3F (hc:checkG g=0) (hn:g.n=n) (h1:1≤w) (h2:w<2^n):checkG (indW g w)=0:=by
 have D:=(B4w hc hn (pW w)).2.2.2.2 (C0L h1 h2);unfold indW;rw [show g.n.toNat=n by omega,B0T]; exact D.2.1
def C0M {v:Nat}:0≤A1C (inL (pW w) n) (v:Int)↔v<n∧aW w v=true:=by
 rw [A8k,A9p];unfold pW aW;rw [Int.toNat_natCast];constructor
 ·rintro ⟨q,h⟩; exact ⟨by omega,h⟩
 ·rintro ⟨q,h⟩; exact ⟨⟨by omega,by omega⟩,h⟩
def C6A {F:Int->Int} {x y:Int}:(x,y)∈endsL ((g.es.filter (A29 F)).map (B0A F))↔ ∃p,p∈endsL g.es∧0≤F p.1∧0≤F p.2∧x=F p.1∧y=F p.2:=by
 unfold endsL;constructor
 ·intro h;obtain ⟨e,he,hx⟩:=Jq.1 h;obtain ⟨e0,he0,rfl⟩:=QJ.1 he;obtain ⟨he1,hb⟩:=Yq.1 he0;simp only [A29,decide_eq_true_eq] at hb;have hx2:=Qj1 hx;have hm:(B0A F e0).m=e0.m:=rfl;rw [hm] at hx;refine ⟨(e0.a,e0.b),Jq.2 ⟨e0,he1,YY.2 ⟨(YY.1 hx).1,rfl⟩⟩,hb.1,hb.2,?_,?_⟩
  ·exact congrArg Prod.fst hx2
  ·exact congrArg Prod.snd hx2
 ·rintro ⟨p,hp,h1,h2,rfl,rfl⟩;obtain ⟨e,he,hx⟩:=Jq.1 hp;have hx2:=Qj1 hx;subst hx2;refine Jq.2 ⟨B0A F e,QJ.2 ⟨e,Yq.2 ⟨he,by simp only [A29,decide_eq_true_eq]; exact ⟨h1,h2⟩⟩,rfl⟩,?_⟩;exact YY.2 ⟨(YY.1 hx).1,rfl⟩
def C6B (hc:checkG g=0) (hn:g.n=n) (h1:1≤w) (h2:w<2^n):C04 g w=true↔C5u (endsL g.es).length n (gR (endsL g.es)) (aW w):=by
 have hE:=A9E (A2i hc hn);have hk:=C3F hc hn h1 h2;have he:=C69 hc hn h1 h2;have hS:=A53 (pW w) n;have hix: ∀v:Nat,0≤A1C (inL (pW w) n) (v:Int)↔v<n∧aW w v=true:=fun v=>C0M;have hmem:=fun x y=> @C6A g (A1C (inL (pW w) n)) x y;have hbk:=fun v=> @B9N (inL (pW w) n) v;have hgt:=fun i v=> @C29 (inL (pW w) n) hS i v;have hlt:=fun v=>B4m (inL (pW w) n) v;have hin: ∀x,x∈inL (pW w) n-> ∃v:Nat,x=v∧v<n∧aW w v=true:=fun x hx=>by
  obtain ⟨⟨q1,q2⟩,q3⟩:=A9p.1 hx;exact ⟨x.toNat,by omega,by omega,q3⟩
 unfold C04;rw [he] at hk ⊢;rw [B3q hk rfl];show (∀u v,u<(inL (pW w) n).length->v<(inL (pW w) n).length->Conn (endsL ((g.es.filter (A29 (A1C (inL (pW w) n)))).map (B0A (A1C (inL (pW w) n))))) u v)↔_;generalize endsL ((g.es.filter (A29 (A1C (inL (pW w) n)))).map (B0A (A1C (inL (pW w) n))))=LH at*;generalize inL (pW w) n=S at*;generalize hL:endsL g.es=L at*;have hedge: ∀p,p∈L-> ∃f,f<L.length∧p=(((gR L (2*f):Nat):Int),((gR L (2*f+1):Nat):Int)):=fun p hp=>by
  obtain ⟨f,hf,rfl⟩:=YJ.1 hp;have:=hE.1 f hf;rw [Qq hf] at this;exact ⟨f,hf,JX this⟩
 constructor
 ·intro hC B hu hv;obtain ⟨u,hu,au,bu⟩:=hu;obtain ⟨v,hv,av,bv⟩:=hv;refine Xq fun hno=> ?_;have hall: ∀f,f<L.length->aW w (gR L (2*f))=true->aW w (gR L (2*f+1))=true->B (gR L (2*f))=B (gR L (2*f+1)):=fun f hf a1 a2=>Xq fun q=>hno ⟨f,hf,a1,a2,q⟩;have iu:=(hix u).2 ⟨hu,au⟩;have iv:=(hix v).2 ⟨hv,av⟩;have key: ∀k,Conn LH (A1C S u).toNat k-> ∃x:Nat,S[k]? =some (x:Int)∧B x=true:=by
   intro k hk
   induction hk with
   | refl=>exact ⟨u,hbk _ iu,bu⟩
   | @step b c _ hs ih=>
    obtain ⟨x,hx,bx⟩:=ih;have step: ∀p,p∈L->0≤A1C S p.1->0≤A1C S p.2-> ∃y z:Nat,p.1=(y:Int)∧p.2=(z:Int)∧B y=B z:=fun p hp q1 q2=>by
     obtain ⟨f,hf,rfl⟩:=hedge p hp;exact ⟨_,_,rfl,rfl,hall f hf ((hix _).1 q1).2 ((hix _).1 q2).2⟩
    rcases hs with hs | hs
    ·obtain ⟨p,hp,q1,q2,e1,e2⟩:=(hmem _ _).1 hs;obtain ⟨y,z,r1,r2,r3⟩:=step p hp q1 q2;have s1:=hbk _ q1;have s2:=hbk _ q2;rw [show (A1C S p.1).toNat=b by omega] at s1;rw [show (A1C S p.2).toNat=c by omega] at s2;rw [hx] at s1;have:=JX s1;rw [r1] at this;have hxy:x=y:=by omega
     exact ⟨z,by rw [s2,r2],by rw [<-r3,<-hxy]; exact bx⟩
    ·obtain ⟨p,hp,q1,q2,e1,e2⟩:=(hmem _ _).1 hs;obtain ⟨y,z,r1,r2,r3⟩:=step p hp q1 q2;have s1:=hbk _ q1;have s2:=hbk _ q2;rw [show (A1C S p.1).toNat=c by omega] at s1;rw [show (A1C S p.2).toNat=b by omega] at s2;rw [hx] at s2;have:=JX s2;rw [r2] at this;have hxy:x=z:=by omega
     exact ⟨y,by rw [s1,r1],by rw [r3,<-hxy]; exact bx⟩
  have l1:=hlt u;have l2:=hlt v;obtain ⟨x,hx,bx⟩:=key _ (hC (A1C S u).toNat (A1C S v).toNat (by omega) (by omega));rw [hbk _ iv] at hx;have:=JX hx;have:v=x:=by omega
  rw [<-this,bv] at bx; cases bx
 ·intro hA i j hi hj;refine Xq fun hno=> ?_
  classical
  obtain ⟨u,eu,hu,au⟩:=hin _ (Xk hi);obtain ⟨v,ev,hv,av⟩:=hin _ (Xk hj);have fu:=hgt i u (by rw [Qq hi,eu]);have fv:=hgt j v (by rw [Qq hj,ev]);obtain ⟨f,hf,a1,a2,hb⟩:=hA (fun x=>decide (Conn LH i (A1C S x).toNat)) ⟨u,hu,au,by rw [fu]; exact decide_eq_true .refl⟩ ⟨v,hv,av,by rw [fv]; exact decide_eq_false hno⟩;have i1:=(hix (gR L (2*f))).2 ⟨hE.2 _ (by omega),a1⟩;have i2:=(hix (gR L (2*f+1))).2 ⟨hE.2 _ (by omega),a2⟩;have hm:=(hmem _ _).2 ⟨_,Qy (hE.1 f hf),i1,i2,rfl,rfl⟩;simp only at hm;rw [show A1C S (gR L (2*f):Nat)=((A1C S (gR L (2*f):Nat)).toNat:Int) by omega,show A1C S (gR L (2*f+1):Nat)=((A1C S (gR L (2*f+1):Nat)).toNat:Int) by omega] at hm;refine hb (decide_eq_decide.2 ⟨fun q=>q.step (.inl hm),fun q=>q.step (.inr hm)⟩)
def C3G (hc:checkG g=0) (hn:g.n=n) (h1:1≤w) (h2:w<2^n) (hcon:C04 g w=true):B7V g w=inE (endsL g.es).length (gR (endsL g.es)) (aW w)-B2c n (aW w)+1:=by
 have hk:=C3F hc hn h1 h2;have he:=C69 hc hn h1 h2;have hr:=A2i hc hn;have hl:(setN n w).length=(inL (pW w) n).length:=by rw [<-B0T,A3C]
 unfold B7V;unfold C04 connB at hcon;rw [he] at hk hcon ⊢;rw [C2m hk rfl];have hp:=of_decide_eq_true hcon;simp only [Int.toNat_natCast] at hp ⊢;rw [hp,B55 (fun x hx=>by have:=(A0j.1 hc).2.1 x hx; unfold okE at this; omega),B6g,hl,B3y];have e:sumR (fun e=>if decide (0≤A1C (inL (pW w) n) ((endsL g.es).getD e (0,0)).1)=true∧decide (0≤A1C (inL (pW w) n) ((endsL g.es).getD e (0,0)).2)=true then (1:Int) else 0) (endsL g.es).length=inE (endsL g.es).length (gR (endsL g.es)) (aW w):=by
  unfold inE;refine A0g fun f hf=> ?_;have hE:=(A9E hr).1 f hf;have hg:=(A9E hr).2;rw [Qz,hE,Option.getD_some];simp only;have i1:= @C0M n w (gR (endsL g.es) (2*f));have i2:= @C0M n w (gR (endsL g.es) (2*f+1));have b1:=hg (2*f) (by omega);have b2:=hg (2*f+1) (by omega);by_cases c:aW w (gR (endsL g.es) (2*f))=true∧aW w (gR (endsL g.es) (2*f+1))=true
  ·rw [if_pos c,if_pos ⟨decide_eq_true (i1.2 ⟨b1,c.1⟩),decide_eq_true (i2.2 ⟨b2,c.2⟩)⟩]
  ·rw [if_neg c,if_neg fun q=>c ⟨(i1.1 (of_decide_eq_true q.1)).2,(i2.1 (of_decide_eq_true q.2)).2⟩]
 rw [e]; omega
end
section
variable {E n:Nat} {gf:Nat->Nat} {A A':Nat->Bool}
def B76 (hg: ∀x,x<2*E->gf x<n) (h: ∀v,v<n->A v=A' v) (hc:C5u E n gf A):C5u E n gf A':=fun B hu hv=>by
 obtain ⟨u,hu,au,bu⟩:=hu;obtain ⟨v,hv,av,bv⟩:=hv;obtain ⟨f,hf,a1,a2,hb⟩:=hc B ⟨u,hu,by rw [h u hu]; exact au,bu⟩ ⟨v,hv,by rw [h v hv]; exact av,bv⟩;exact ⟨f,hf,by rw [<-h _ (hg _ (by omega))]; exact a1,by rw [<-h _ (hg _ (by omega))]; exact a2,hb⟩
def B3z (hg: ∀x,x<2*E->gf x<n) (h: ∀v,v<n->A v=A' v):inE E gf A=inE E gf A':=A0g fun f hf=>by
 rw [h _ (hg _ (by omega)),h _ (hg _ (by omega))]
def B0V (h: ∀v,v<n->A v=A' v):B2c n A=B2c n A':=A0g fun v hv=>by rw [h v hv]
def B30 (D:Nat->Int) (h: ∀v,v<n->A v=A' v):chA n D A=chA n D A':=A0g fun v hv=>by rw [h v hv]
end
def C5w (A:Nat->Bool) (n:Nat): ∀v,v<n->A v=aW (A8a A n) v:=fun v hv=>by
 have h:=A2X A n v hv;unfold aW;by_cases hb:A v=true
 ·rw [hb,decide_eq_true ((A4c _ _).2 (by rw [h,hb]))]
 ·have hb:A v=false:=by simpa using hb
  rw [hb,decide_eq_false fun q=>by rw [A4c,h,hb] at q; cases q]
def C6C {w v:Nat} (h:aW w v=true):1≤w:=by
 have h:=of_decide_eq_true h;rcases Qz3 w with e | e
 ·rw [e] at h; unfold B3g at h; simp at h
 ·exact e
def B31 {g:G} {k w:Nat}:w∈A5h g k↔(1≤w∧w≤k)∧C04 g w=true:=by
 unfold A5h;rw [Yq,QJ];constructor
 ·rintro ⟨⟨a,ha,rfl⟩,h⟩; have:=Xy.1 ha; exact ⟨by omega,h⟩
 ·rintro ⟨h,h2⟩; exact ⟨⟨w-1,Xy.2 (by omega),by omega⟩,h2⟩
def C0N {n w:Nat}:(setN n w).length=n↔ ∀v,v<n->aW w v=true:=by
 unfold setN;have h:=List.length_filter_eq_length_iff (l:=List.range n) (p:=fun v=>decide (B3g w v=1));rw [Vk] at h;rw [h];exact ⟨fun q v hv=>q v (Xy.2 hv),fun q v hv=>q v (Xy.1 hv)⟩
def C3b {g:G} {n:Nat} (hc:checkG g=0) (hn:g.n=n) (hcon:connB g=true):C5u (endsL g.es).length n (gR (endsL g.es)) (fun _=>true):=fun B hu hv=>by
 obtain ⟨u,hu,-,bu⟩:=hu;obtain ⟨v,hv,-,bv⟩:=hv;refine Xq fun hno=> ?_;have hE:=(A9E (A2i hc hn)).1;have hall: ∀f,f<(endsL g.es).length->B (gR (endsL g.es) (2*f))=B (gR (endsL g.es) (2*f+1)):=fun f hf=>Xq fun q=>hno ⟨f,hf,rfl,rfl,q⟩;have he: ∀b c:Nat,((b:Int),(c:Int))∈endsL g.es->B b=B c:=fun b c h=>by
  obtain ⟨f,hf,e⟩:=YJ.1 h;have h2:=hE f hf;rw [Qq hf,e] at h2;have h3:=Prod.mk.inj (JX h2);rw [show b=gR (endsL g.es) (2*f) by omega,show c=gR (endsL g.es) (2*f+1) by omega];exact hall f hf
 have key: ∀k,Conn (endsL g.es) u k->B k=true:=fun k hk=>by
  induction hk with
  | refl=>exact bu
  | @step b c _ hs ih=>
   rcases hs with hs | hs
   ·rw [<-he _ _ hs]; exact ih
   ·rw [he _ _ hs]; exact ih
 rw [key v ((B3q hc hn).1 hcon u v hu hv)] at bv; cases bv
def C0O (E:Nat) (gf:Nat->Nat):inE E gf (fun _=>true)=E:=by
 unfold inE;rw [A0g (g:=fun _=>1) fun _ _=>if_pos ⟨rfl,rfl⟩,A1Z]; omega
def B6h (n:Nat):B2c n (fun _=>true)=n:=by
 unfold B2c;rw [A0g (g:=fun _=>1) fun _ _=>if_pos rfl,A1Z]; omega
def C0P (n:Nat) (D:Nat->Int):chA n D (fun _=>true)=sumR D n:=A0g fun _ _=>if_pos rfl
def C0Q {g:G} {n w:Nat} (hn:g.n=n) (d:List Int):okS g d w=true↔B7V g w≤A8v d (setN n w)∧((setN n w).length=n->A8v d (setN n w)=B7V g w):=by
 unfold okS;rw [show g.n.toNat=n by omega];simp only [hn];by_cases h1:A8v d (setN n w)<B7V g w
 ·simp [h1]; omega
 ·by_cases h2:(setN n w).length=n
  ·by_cases h3:A8v d (setN n w)=B7V g w
   ·simp [h1,h2,h3]
   ·simp [h1,h2,h3]
  ·simp [h1,h2]; omega
def C3c {g:G} {n:Nat} (hc:checkG g=0) (hn:g.n=n) (hcon:connB g=true) (d:List Int):C3a g d=true↔BrkD (endsL g.es).length n (gR (endsL g.es)) (fun v=>d.getD v 0):=by
 have h12:=(A0j.1 hc).1;have hg:=(A9E (A2i hc hn)).2;have hp:2^n=2^n-1+1:=by have:=Nat.two_pow_pos n; omega
 unfold C3a;rw [Zv,show g.n.toNat=n by omega];constructor
 ·intro h;have key: ∀A:Nat->Bool,(∃v,v<n∧A v=true)->C5u (endsL g.es).length n (gR (endsL g.es)) A->inE (endsL g.es).length (gR (endsL g.es)) A-B2c n A+1≤chA n (fun v=>d.getD v 0) A∧((∀v,v<n->A v=true)->chA n (fun v=>d.getD v 0) A=inE (endsL g.es).length (gR (endsL g.es)) A-B2c n A+1):=fun A hA hcA=>by
   have hm:=C5w A n;have hlt:=A8u A n;obtain ⟨v,hv,av⟩:=hA;have h1:1≤A8a A n:=C6C (v:=v) (by rw [<-hm v hv]; exact av);generalize A8a A n=w at*;have hcw:=(C6B hc hn h1 hlt).2 (B76 hg hm hcA);have ho:=(C0Q hn d).1 (h w (B31.2 ⟨⟨h1,by omega⟩,hcw⟩));rw [C3G hc hn h1 hlt hcw,<-B4S] at ho;rw [B3z hg hm,B0V hm,B30 _ hm];refine ⟨ho.1,fun hall=>ho.2 (C0N.2 fun v hv=>by rw [<-hm v hv]; exact hall v hv)⟩
  refine C2X ?_ fun A hA hcA=>(key A hA hcA).1;have:=(key (fun _=>true) ⟨0,by omega,rfl⟩ (C3b hc hn hcon)).2 fun _ _=>rfl;rw [C0O,B6h,C0P] at this;exact this
 ·intro hB w hw;obtain ⟨⟨h1,h2⟩,hcw⟩:=B31.1 hw;have hlt:w<2^n:=by omega
  rw [C0Q hn,C3G hc hn h1 hlt hcw,<-B4S];obtain ⟨v,hv,hb⟩:=C0K h1 hlt;refine ⟨hB.low (aW w) ⟨v,hv,decide_eq_true hb⟩,fun hl=> ?_⟩;have hall:=C0N.1 hl;have hm: ∀v,v<n->aW w v=(fun _=>true) v:=fun v hv=>hall v hv;rw [B3z hg hm,B0V hm,B30 _ hm,C0O,B6h,C0P,hB.deg]
def A3G {g:G} (h:A0t g=0):checkG g=0∧connB g=true:=by
 unfold A0t at h;by_cases hc:checkG g=0
 ·rw [if_neg (by omega)] at h;by_cases hb:connB g=true
  ·exact ⟨hc,hb⟩
  ·rw [if_neg hb] at h; cases h
 ·rw [if_pos hc] at h; exact absurd h hc
end Go.Proofs.YtdbdfkohpjefjaaGreat
