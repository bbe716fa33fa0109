/- A part of the proof. -/
import Derived.Test.YtdbdfkohpjefjaaGreatPart33
import Derived.Test.YtdbdfkohpjefjaaGreatPart35
import Derived.Test.YtdbdfkohpjefjaaGreatPart34
set_option linter.all false
set_option maxHeartbeats 4000000
set_option maxRecDepth 100000
namespace Go.Proofs.YtdbdfkohpjefjaaGreat
open Go.Sp
theorem A3l {m f i j:Nat} (h:i<m):A6d m (.fn f [.ptr i j]):=fun c hc=>by rw [Zz] at hc; subst hc; exact h
noncomputable def A7T (d:List Int) (s:List Nat):Int:=(s.map fun v=>d.getD v 0).sum
theorem B9M (d:List Int) {s:List Nat} {i v:Nat} (h:s[i]? =some v):A7T d (s.take (i+1))=A7T d (s.take i)+d.getD v 0:=by
 unfold A7T;rw [List.take_add_one,h,Jv,List.sum_append]; simp
theorem B9N {d:List Int} (hd: ∀v,v<d.length-> -1000000000000≤d.getD v 0∧d.getD v 0≤1000000000000): ∀{s:List Nat},(∀v,v∈s->v<d.length)-> -1000000000000*(s.length:Int)≤A7T d s∧A7T d s≤1000000000000*(s.length:Int)
 | [],_=>by simp [A7T]
 | v::s,h=>by
  have h1:=hd v (h v List.mem_cons_self);have h2:=B9N hd (s:=s) fun x hx=>h x (YW _ hx);have e:A7T d (v::s)=d.getD v 0+A7T d s:=by simp [A7T]
  rw [e,List.length_cons]; omega
theorem B6O (d:List Int) (hdl:d.length≤4096) (hd: ∀v,v<d.length-> -1000000000000≤d.getD v 0∧d.getD v 0≤1000000000000) (s:List Nat) (hs: ∀v,v∈s->v<d.length) (hl:s.length≤4096) {H:List Blk} (n:Int) (es:List E) (hH:H=[.box [.int .i64 n,.slice (A0f es) .none],.box [.slice (A0p d) .none],.box [.bool false],.box [.fn 108 [.ptr 1 0]]]):
  ACallH Tryz.prog 108 H [.c (.slice (A0p (zI s)) .none),.c (.ptr 1 0)] H (.c (.int .i64 (A7T d s))):=by
 subst hH;have hzl:=A35 s;have hb:=fun i=>B9N hd (s:=s.take i) fun v hv=>hs v (VQ hv);refine ACallH.of_body Tryz.func108 rfl (by kernel_rfl) ?_;simp only [entry,Tryz.ntmps108,List.length_cons,List.length_nil,Nat.reduceAdd,Nat.reduceSub,List.replicate_succ,List.replicate_zero,List.cons_append,List.nil_append];refine zR (zc @A0e (zc @hzl Qw9)) Qw9 Qw9 ?_;refine AWp.loopS (α:=Nat) 21 (fun i=>[(1,.c (.ptr 1 0)),(4,.c (.int .i64 (A7T d (s.take i)))),(7,.c (.slice (A0p (zI s)) .none)),(8,.c (.int .i64 (s.length:Int))),(9,.c (.int .i64 (i:Int)))]) (fun i=>[.box [.int .i64 n,.slice (A0f es) .none],.box [.slice (A0p d) .none],.box [.bool false],.box [.fn 108 [.ptr 1 0]]]) (fun i=>i≤s.length) (fun i=>s.length-i) (0) (hk:=Weak.headL 4 21 [1,4,7,8,9] (by (repeat' (first | exact A0n _ | exact A0v _ | exact A0i _ | refine Qw8 ?_ ?_ | refine A0j ?_ ?_ | refine A0l ?_ ?_ | refine A0g ?_ ?_ | exact Qw7 | exact A3l (by omega) | (show _<_; omega) | exact A0q (fun _=>Qw7) | (intro c hc; cases hc; done) | (intro c hc; simp only [Qw,Qk,or_false] at hc; subst hc; first | exact Qw7 | exact A3l (by omega) | (show _<_; omega)) | (intro c hc; simp only [Qw,Qk,or_false] at hc; rcases hc with rfl | rfl<;>first | exact Qw7 | exact A3l (by omega) | (show _<_; omega)))))) (h0:=?_) (round:=fun i hI=>?_)
 ·exact Xj _
 ·have hi:i≤s.length:=hI;clear hI;by_cases hlt:i<s.length
  ·have hltI:(i:Int)<(s.length:Int):=by omega
   have e0:=Qq hlt;have hv:=hs _ (Xw hlt);have e1:(A0p (zI s))[i]? =some [.int .i64 (s[i]:Int)]:=by
    have:(zI s)[i]? =some (s[i]:Int):=by unfold zI; rw [QY,e0]; rfl
    exact A0u this
   have e2:(A0p d)[s[i]]? =some [.int .i64 (d.getD s[i] 0)]:=A0u (by rw [Qz,Qq hv]; rfl);have e3:=B9M d e0;have hb0:=hb i;have hb1:=hb (i+1);rw [Wv] at hb0 hb1;have hvI:(s[i]:Int)<(d.length:Int):=by omega
   rw [e3] at hb1;generalize s[i]=v at*;generalize hA:A7T d (s.take (i+1))=A1 at*;generalize A7T d (s.take i)=A at*;generalize d.getD v 0=x at*;refine zR (zc @hltI (zc @A0e (zc @hzl (zc @e1 (zc @e2 (zc @hvI Qw9)))))) Qw9 Qw9 ?_;refine ⟨i+1,Weak.headN 4 21 [1,4,7,8,9] (by (repeat' (first | exact A0n _ | exact A0v _ | exact A0i _ | refine Qw8 ?_ ?_ | refine A0j ?_ ?_ | refine A0l ?_ ?_ | refine A0g ?_ ?_ | exact Qw7 | exact A3l (by omega) | (show _<_; omega) | exact A0q (fun _=>Qw7) | (intro c hc; cases hc; done) | (intro c hc; simp only [Qw,Qk,or_false] at hc; subst hc; first | exact Qw7 | exact A3l (by omega) | (show _<_; omega)) | (intro c hc; simp only [Qw,Qk,or_false] at hc; rcases hc with rfl | rfl<;>first | exact Qw7 | exact A3l (by omega) | (show _<_; omega))))),?_,?_⟩
   ·exact hlt
   ·omega
  ·have ei:i=s.length:=by omega
   rw [ei,Zy];have hnl: ¬((s.length:Int)<(s.length:Int)):=by omega
   refine zR (zc @hnl (zc @hzl Qw9)) Qw9 Qw9 ?_;simp [A4D,A1Y,A0s,A1X,Tryz.results108]
theorem B4h (g:G):ACall Tryz.prog 109 [tG g] (.t (.fn 155 [.rptr [.int .i64 g.n,.slice (A0f g.es)]])):=by
 obtain ⟨n,es⟩:=g;refine ACall.of_body Tryz.func109 rfl (by kernel_rfl) ?_;simp only [entry,Tryz.ntmps109,tG];refine zU ?_;refine zR Qw9 Qw9 Qw9 ?_;simp [A0y,A0x,Blk.cells,ty,Tryz.results109,A0s,A0t,toT,A0d,A0b,A0c,A0a]
noncomputable def B7n (g:G) (w:Nat):Int:=C0x (endsL (indW g w).es)
noncomputable def okS (g:G) (d:List Int) (w:Nat):Bool:= !(decide (A7T d (setN g.n.toNat w)<B7n g w)||(decide (((setN g.n.toNat w).length:Int)=g.n)&& !decide (A7T d (setN g.n.toNat w)=B7n g w)))
noncomputable def B9O (g:G) (d:List Int):Bool:=(A4S g (2^g.n.toNat-1)).all (okS g d)
theorem C6O:A01 Tryz.prog 140=some 1:=by kernel_rfl
theorem C6P:A08 Tryz.prog 140=some .nilFunc:=by kernel_rfl
theorem B26 (g:G) (d:List Int) (hI:IndOk g) (h1:1≤g.n∧g.n≤12) (hl:g.es.length≤40) (hdl:d.length=g.n.toNat) (hd: ∀v,v<d.length-> -1000000000000≤d.getD v 0∧d.getD v 0≤1000000000000):
  ACall Tryz.prog 64 [tG g,A0m d] (A0z (B9O g d)):=by
 have hS:=B4h g;have hIt:=B3Z g hI h1 hl;have hinv:=fun k ts h=>C3Y (g:=g) (m:=2^g.n.toNat-1) (k:=k) (ts:=ts) h;have hlenI:=B91 g (2^g.n.toNat-1);have hsub: ∀w v,v∈setN g.n.toNat w->v<d.length:=fun w v hv=>by
  have:(v:Int)∈zI (setN g.n.toNat w):=by unfold zI; exact QJ.2 ⟨v,hv,rfl⟩
  obtain ⟨a,e,ha,-⟩:=B5k.1 this;omega
 have hsl:=fun w=>A5v g.n.toNat w;have hB:=fun w=>B6O d (by omega) hd (setN g.n.toNat w) (hsub w) (by have:=hsl w; omega) g.n g.es rfl;have hok: ∀w,okS g d w= !(decide (A7T d (setN g.n.toNat w)<B7n g w)||(decide (((setN g.n.toNat w).length:Int)=g.n)&& !decide (A7T d (setN g.n.toNat w)=B7n g w))):=fun _=>rfl;have hgw: ∀w,C0x (endsL (indW g w).es)=B7n g w:=fun _=>rfl;have hzl:=fun w=>A35 (setN g.n.toNat w);unfold B9O;simp only [hgw] at hinv;generalize okS g d=oS at*;generalize B7n g=gW at*;generalize itS g (2^g.n.toNat-1)=xs at*;generalize A4S g (2^g.n.toNat-1)=ws at*;generalize setN g.n.toNat=sN at*;clear hI hgw hsub;obtain ⟨n,es⟩:=g;simp only at*;refine ACall.of_body Tryz.func64 rfl (by kernel_rfl) ?_;simp only [entry,Tryz.ntmps64,tG,A0m];refine zU ?_;refine zR (zc @C6O (zc @C6P Qw9)) (zc hS Qw9) Qw9 ?_;refine AWp.weak (Weak.head (m:=4) (by omega) ((fun t f=>[f,f,t,f,t,t,f,f,f,f,f,t,f,f,f,f,f,f,f,f,f,f,f,f,f,f,f,f,f,f,f,f]) true false) (by first | rfl | simp [mask]) (by first | rfl | simp) (by (repeat' (first | exact A0n _ | refine A0j ?_ ?_ | refine A0g ?_ ?_ | exact A0i _ | exact Qw7 | (show _<_; omega) | (intro c hc; cases hc; done) | (intro c hc; simp only [Qw,Qk,or_false] at hc; subst hc; first | exact Qw7 | (show _<_; omega)) | (intro c hc; simp only [Qw,Qk,or_false] at hc; rcases hc with rfl | rfl<;>first | exact Qw7 | (show _<_; omega))))) (by (repeat' (first | exact A0n _ | exact A0v _ | exact A0i _ | refine Qw8 ?_ ?_ | refine A0j ?_ ?_ | refine A0l ?_ ?_ | refine A0g ?_ ?_ | exact Qw7 | exact A3l (by omega) | (show _<_; omega) | exact A0q (fun _=>Qw7) | (intro c hc; cases hc; done) | (intro c hc; simp only [Qw,Qk,or_false] at hc; subst hc; first | exact Qw7 | exact A3l (by omega) | (show _<_; omega)) | (intro c hc; simp only [Qw,Qk,or_false] at hc; rcases hc with rfl | rfl<;>first | exact Qw7 | exact A3l (by omega) | (show _<_; omega)))))) (AWp.rangeFunc (fun k H=>H=[.box [.int .i64 n,.slice (A0f es) .none],.box [.slice (A0p d) .none],.box [.bool false],.box [.fn 108 [.ptr 1 0]]]∧((ws.take k).all oS=true)) (fun e H=>e= .ret∧H=[.box [.int .i64 n,.slice (A0f es) .none],.box [.slice (A0p d) .none],.box [.bool false],.box [.fn 108 [.ptr 1 0]]]∧ws.all oS=false) 4 rfl (hIt) (fun k ts hts=>by obtain ⟨_,_,rfl⟩:=hinv _ _ hts; rfl) (by omega) (by (repeat' (first | exact A0n _ | refine A0j ?_ ?_ | refine A0g ?_ ?_ | exact A0i _ | exact Qw7 | (show _<_; omega) | (intro c hc; cases hc; done) | (intro c hc; simp only [Qw,Qk,or_false] at hc; subst hc; first | exact Qw7 | (show _<_; omega)) | (intro c hc; simp only [Qw,Qk,or_false] at hc; rcases hc with rfl | rfl<;>first | exact Qw7 | (show _<_; omega))))) (by rintro _ _ ⟨rfl,-⟩; simp) ?_ ?_ (fun l k ts H hts hI=> ?_) (fun H hI=> ?_) (fun e H hX=> ?_))
 ·rintro _ _ ⟨-,rfl,-⟩; simp
 ·exact ⟨rfl,rfl⟩
 ·obtain ⟨rfl,hp⟩:=hI;obtain ⟨w,hw,rfl⟩:=hinv _ _ hts;have hB1:=hB w;have ho:=hok w;have hz1:=hzl w;have htk:ws.take (k+1)=ws.take k++[w]:=by rw [List.take_add_one,hw]; rfl
  generalize gW w=gw at*;generalize A7T d (sN w)=sm at*;have hall:oS w=false->ws.all oS=false:=fun h=>by
   rw [List.all_eq_false];exact ⟨w,Qy hw,by rw [h]; simp⟩
  by_cases hc:sm<gw
  ·rw [decide_eq_true hc] at ho;simp only [mask,A4u,List.zip_cons_cons,WV,List.zip_nil_left,List.foldl_cons,List.foldl_nil,List.set_cons_succ,List.set_cons_zero,ofT,A2T,A04,Xk,Zj,ofT,A2T,toT,A0t,A0a,A0k,A0z,A3o,tG,A0C,A0m,A0R];refine zJ Qw9 (zc @hc Qw9) Qw9 (zc hB1 Qw9) Qw9 ?_;refine ⟨_,Weak.refl _ _,rfl,rfl,hall ho⟩
  ·rw [decide_eq_false hc] at ho;by_cases h2:((sN w).length:Int)=n
   ·rw [decide_eq_true h2] at ho;by_cases h3:sm=gw
    ·rw [decide_eq_true h3] at ho;simp only [mask,A4u,List.zip_cons_cons,WV,List.zip_nil_left,List.foldl_cons,List.foldl_nil,List.set_cons_succ,List.set_cons_zero,ofT,A2T,A04,Xk,Zj,ofT,A2T,toT,A0t,A0a,A0k,A0z,A3o,tG,A0C,A0m,A0R];refine zJ Qw9 (zc @hc (zc @h2 (zc @h3 (zc @A0e (zc @hz1 Qw9))))) Qw9 (zc hB1 Qw9) Qw9 ?_;refine ⟨⟨_,_⟩,Weak.head2 (m:=4) (by decide) ((fun t f=>[f,f,f,f,f,f,f,f,f,f,f,f,f,f,f,f,f,f,f,f,f,f,f,f,f,f,f,f,f,f,f,f]) true false) rfl rfl (by (repeat' (first | exact A0n _ | exact A0v _ | exact A0i _ | refine Qw8 ?_ ?_ | refine A0j ?_ ?_ | refine A0l ?_ ?_ | refine A0g ?_ ?_ | exact Qw7 | exact A3l (by omega) | (show _<_; omega) | exact A0q (fun _=>Qw7) | (intro c hc; cases hc; done) | (intro c hc; simp only [Qw,Qk,or_false] at hc; subst hc; first | exact Qw7 | exact A3l (by omega) | (show _<_; omega)) | (intro c hc; simp only [Qw,Qk,or_false] at hc; rcases hc with rfl | rfl<;>first | exact Qw7 | exact A3l (by omega) | (show _<_; omega))))),?_,?_⟩
     ·rfl
     ·rw [htk,List.all_append,hp,List.all_cons,ho]; rfl
    ·rw [decide_eq_false h3] at ho;simp only [mask,A4u,List.zip_cons_cons,WV,List.zip_nil_left,List.foldl_cons,List.foldl_nil,List.set_cons_succ,List.set_cons_zero,ofT,A2T,A04,Xk,Zj,ofT,A2T,toT,A0t,A0a,A0k,A0z,A3o,tG,A0C,A0m,A0R];refine zJ Qw9 (zc @hc (zc @h2 (zc @h3 (zc @A0e (zc @hz1 Qw9))))) Qw9 (zc hB1 Qw9) Qw9 ?_;refine ⟨_,Weak.refl _ _,rfl,rfl,hall ho⟩
   ·rw [decide_eq_false h2] at ho;simp only [mask,A4u,List.zip_cons_cons,WV,List.zip_nil_left,List.foldl_cons,List.foldl_nil,List.set_cons_succ,List.set_cons_zero,ofT,A2T,A04,Xk,Zj,ofT,A2T,toT,A0t,A0a,A0k,A0z,A3o,tG,A0C,A0m,A0R];refine zJ Qw9 (zc @hc (zc @h2 (zc @A0e (zc @hz1 Qw9)))) Qw9 (zc hB1 Qw9) Qw9 ?_;refine ⟨⟨_,_⟩,Weak.head2 (m:=4) (by decide) ((fun t f=>[f,f,f,f,f,f,f,f,f,f,f,f,f,f,f,f,f,f,f,f,f,f,f,f,f,f,f,f,f,f,f,f]) true false) rfl rfl (by (repeat' (first | exact A0n _ | exact A0v _ | exact A0i _ | refine Qw8 ?_ ?_ | refine A0j ?_ ?_ | refine A0l ?_ ?_ | refine A0g ?_ ?_ | exact Qw7 | exact A3l (by omega) | (show _<_; omega) | exact A0q (fun _=>Qw7) | (intro c hc; cases hc; done) | (intro c hc; simp only [Qw,Qk,or_false] at hc; subst hc; first | exact Qw7 | exact A3l (by omega) | (show _<_; omega)) | (intro c hc; simp only [Qw,Qk,or_false] at hc; rcases hc with rfl | rfl<;>first | exact Qw7 | exact A3l (by omega) | (show _<_; omega))))),?_,?_⟩
    ·rfl
    ·rw [htk,List.all_append,hp,List.all_cons,ho]; rfl
 ·obtain ⟨rfl,hp⟩:=hI;rw [hlenI,Zy] at hp;rw [hp];simp only [mask];refine zR Qw9 Qw9 Qw9 ?_;simp [A0y,A0x,Blk.cells,ty,Tryz.results64,A0s,A0t,toT,A0d,A0b,A0c,A0a,A0z]
 ·obtain ⟨rfl,rfl,hp⟩:=hX;rw [hp];simp only [A1y,A2G,mask];simp [A0y,A0x,Blk.cells,ty,Tryz.results64,A0s,A0t,toT,A0d,A0b,A0c,A0a,A0z]
structure Tw (r d b:R) (l m:List Int) (E B:Nat):Prop where
 d1:dualD r=d
 d2:dualE r=0
 d3:dualN r=l
 b1:dualD d=b
 b2:dualE d=0
 b3:dualN d=m
 sd:RSm d
 sb:RSm b
 ed:ribE d=0
 eb:ribE b=0
 gen:genusR d=genusR r
 bn:b.n=r.n
 ll:l.length=E
 ml:m.length=E
 e9:E≤9
 eE:(endsL r.es).length=E
 lr: ∀x,x∈l->0≤x∧x<E
 mr: ∀x,x∈m->0≤x∧x<E
 br: ∀w,w∈b.ar-> ∀x,x∈w->0≤x∧x<2*E
 hB:B<2^E
 test:sortLL (b.ar.map (renL (behI (invK l (flB E B) l.length) (invK m (List.replicate E false) m.length) (2*E))))=sortLL r.ar
end Go.Proofs.YtdbdfkohpjefjaaGreat
