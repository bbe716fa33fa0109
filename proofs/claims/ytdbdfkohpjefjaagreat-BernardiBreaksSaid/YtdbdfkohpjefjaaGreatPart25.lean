/- A part of the proof. -/
import Derived.Test.YtdbdfkohpjefjaaGreatPart22
import Derived.Test.YtdbdfkohpjefjaaGreatPart24
import Derived.Test.YtdbdfkohpjefjaaGreatPart23
set_option linter.all false
set_option maxHeartbeats 4000000
set_option maxRecDepth 100000
namespace Go.Proofs.YtdbdfkohpjefjaaGreat
open Go.Sp
def B35 {m f i j:Nat} (h:i<m):A6o m (.fn f [.ptr i j]):=fun c hc=>by rw [XQ] at hc; subst hc; exact h
noncomputable def A80 (d:List Int) (s:List Nat):Int:=(s.map fun v=>d.getD v 0).sum
def C1c (d:List Int) {s:List Nat} {i v:Nat} (h:s[i]? =some v):A80 d (s.take (i+1))=A80 d (s.take i)+d.getD v 0:=by
 unfold A80;rw [List.take_add_one,h,Jz,List.sum_append]; simp
def C1d {d:List Int} (hd: ∀v,v<d.length-> -1000000000000≤d.getD v 0∧d.getD v 0≤1000000000000): ∀{s:List Nat},(∀v,v∈s->v<d.length)-> -1000000000000*(s.length:Int)≤A80 d s∧A80 d s≤1000000000000*(s.length:Int)
 | [],_=>by simp [A80]
 | v::s,h=>by
  have h1:=hd v (h v List.mem_cons_self);have h2:=C1d hd (s:=s) fun x hx=>h x (YY _ hx);have e:A80 d (v::s)=d.getD v 0+A80 d s:=by simp [A80]
  rw [e,List.length_cons]; omega
def B7R (d:List Int) (hdl:d.length≤4096) (hd: ∀v,v<d.length-> -1000000000000≤d.getD v 0∧d.getD v 0≤1000000000000) (s:List Nat) (hs: ∀v,v∈s->v<d.length) (hl:s.length≤4096) {H:List Blk} (n:Int) (es:List E) (hH:H=[.box [.int .i64 n,.slice (A0f es) .none],.box [.slice (A0l d) .none],.box [.bool false],.box [.fn 108 [.ptr 1 0]]]):
  ACallH Tryz.prog 108 H [.c (.slice (A0l (zI s)) .none),.c (.ptr 1 0)] H (.c (.int .i64 (A80 d s))):=by
 subst hH;have hzl:=A3n s;have hb:=fun i=>C1d hd (s:=s.take i) fun v hv=>hs v (JZ hv);refine ACallH.of_body Tryz.func108 rfl (by kernel_rfl) ?_;simp only [entry,Tryz.ntmps108,List.length_cons,List.length_nil,Nat.reduceAdd,Nat.reduceSub,List.replicate_succ,List.replicate_zero,List.cons_append,List.nil_append];refine zR (zc @A0e (zc @hzl Qv5)) Qv5 Qv5 ?_;refine AWp.loopS (α:=Nat) 21 (fun i=>[(1,.c (.ptr 1 0)),(4,.c (.int .i64 (A80 d (s.take i)))),(7,.c (.slice (A0l (zI s)) .none)),(8,.c (.int .i64 (s.length:Int))),(9,.c (.int .i64 (i:Int)))]) (fun i=>[.box [.int .i64 n,.slice (A0f es) .none],.box [.slice (A0l d) .none],.box [.bool false],.box [.fn 108 [.ptr 1 0]]]) (fun i=>i≤s.length) (fun i=>s.length-i) (0) (hk:=Weak.headL 4 21 [1,4,7,8,9] (zWs @B35)) (h0:=?_) (round:=fun i hI=>?_)
 ·exact Xj _
 ·have hi:i≤s.length:=hI;clear hI;by_cases hlt:i<s.length
  ·have hltI:(i:Int)<(s.length:Int):=by omega
   have e0:=Qq hlt;have hv:=hs _ (Xw hlt);have e1:(A0l (zI s))[i]? =some [.int .i64 (s[i]:Int)]:=by
    have:(zI s)[i]? =some (s[i]:Int):=by unfold zI; rw [QQ,e0]; rfl
    exact A0t this
   have e2:(A0l d)[s[i]]? =some [.int .i64 (d.getD s[i] 0)]:=A0t (by rw [Qz,Qq hv]; rfl);have e3:=C1c d e0;have hb0:=hb i;have hb1:=hb (i+1);rw [Wk] at hb0 hb1;have hvI:(s[i]:Int)<(d.length:Int):=by omega
   rw [e3] at hb1;generalize s[i]=v at*;generalize hA:A80 d (s.take (i+1))=A1 at*;generalize A80 d (s.take i)=A at*;generalize d.getD v 0=x at*;refine zR (zc @hltI (zc @A0e (zc @hzl (zc @e1 (zc @e2 (zc @hvI Qv5)))))) Qv5 Qv5 ?_;refine ⟨i+1,Weak.headN 4 21 [1,4,7,8,9] (zWs @B35),?_,?_⟩
   ·exact hlt
   ·omega
  ·have ei:i=s.length:=by omega
   rw [ei,Zz];have hnl: ¬((s.length:Int)<(s.length:Int)):=by omega
   refine zR (zc @hnl (zc @hzl Qv5)) Qv5 Qv5 ?_;simp [A4Q,A2f,A0o,A2e,Tryz.results108]
def B5h (g:G):ACall Tryz.prog 109 [tG g] (.t (.fn 155 [.rptr [.int .i64 g.n,.slice (A0f g.es)]])):=by
 obtain ⟨n,es⟩:=g;refine ACall.of_body Tryz.func109 rfl (by kernel_rfl) ?_;simp only [entry,Tryz.ntmps109,tG];refine zU ?_;refine zR Qv5 Qv5 Qv5 ?_;simp [A0s,A0r,Blk.cells,ty,Tryz.results109,A0o,A0p,toT,A0d,A0b,A0c,A0a]
noncomputable def B8p (g:G) (w:Nat):Int:=C1L (endsL (indW g w).es)
noncomputable def okS (g:G) (d:List Int) (w:Nat):Bool:= !(decide (A80 d (setN g.n.toNat w)<B8p g w)||(decide (((setN g.n.toNat w).length:Int)=g.n)&& !decide (A80 d (setN g.n.toNat w)=B8p g w)))
noncomputable def B7S (g:G) (d:List Int):Bool:=(A5h g (2^g.n.toNat-1)).all (okS g d)
def C8y:A0u Tryz.prog 140=some 1:=by kernel_rfl
def C8z:A01 Tryz.prog 140=some .nilFunc:=by kernel_rfl
def B36 (g:G) (d:List Int) (hI:IndOk g) (h1:1≤g.n∧g.n≤12) (hl:g.es.length≤40) (hdl:d.length=g.n.toNat) (hd: ∀v,v<d.length-> -1000000000000≤d.getD v 0∧d.getD v 0≤1000000000000):
  ACall Tryz.prog 64 [tG g,A0k d] (A0q (B7S g d)):=by
 have hS:=B5h g;have hIt:=B5b g hI h1 hl;have hinv:=fun k ts h=>C5B (g:=g) (m:=2^g.n.toNat-1) (k:=k) (ts:=ts) h;have hlenI:=C0E g (2^g.n.toNat-1);have hsub: ∀w v,v∈setN g.n.toNat w->v<d.length:=fun w v hv=>by
  have:(v:Int)∈zI (setN g.n.toNat w):=by unfold zI; exact QY.2 ⟨v,hv,rfl⟩
  obtain ⟨a,e,ha,-⟩:=B6n.1 this;omega
 have hsl:=fun w=>A4x g.n.toNat w;have hB:=fun w=>B7R d (by omega) hd (setN g.n.toNat w) (hsub w) (by have:=hsl w; omega) g.n g.es rfl;have hok: ∀w,okS g d w= !(decide (A80 d (setN g.n.toNat w)<B8p g w)||(decide (((setN g.n.toNat w).length:Int)=g.n)&& !decide (A80 d (setN g.n.toNat w)=B8p g w))):=fun _=>rfl;have hgw: ∀w,C1L (endsL (indW g w).es)=B8p g w:=fun _=>rfl;have hzl:=fun w=>A3n (setN g.n.toNat w);unfold B7S;simp only [hgw] at hinv;generalize okS g d=oS at*;generalize B8p g=gW at*;generalize itS g (2^g.n.toNat-1)=xs at*;generalize A5h g (2^g.n.toNat-1)=ws at*;generalize setN g.n.toNat=sN at*;clear hI hgw hsub;obtain ⟨n,es⟩:=g;simp only at*;refine ACall.of_body Tryz.func64 rfl (by kernel_rfl) ?_;simp only [entry,Tryz.ntmps64,tG,A0k];refine zU ?_;refine zR (zc @C8y (zc @C8z Qv5)) (zc hS Qv5) Qv5 ?_;refine AWp.weak (Weak.head (m:=4) (by omega) ((fun t f=>[f,f,t,f,t,t,f,f,f,f,f,t,f,f,f,f,f,f,f,f,f,f,f,f,f,f,f,f,f,f,f,f]) true false) (by first | rfl | simp [mask]) (by first | rfl | simp) (zWs trivial) (zWs @B35)) (AWp.rangeFunc (fun k H=>H=[.box [.int .i64 n,.slice (A0f es) .none],.box [.slice (A0l d) .none],.box [.bool false],.box [.fn 108 [.ptr 1 0]]]∧((ws.take k).all oS=true)) (fun e H=>e= .ret∧H=[.box [.int .i64 n,.slice (A0f es) .none],.box [.slice (A0l d) .none],.box [.bool false],.box [.fn 108 [.ptr 1 0]]]∧ws.all oS=false) 4 rfl (hIt) (fun k ts hts=>by obtain ⟨_,_,rfl⟩:=hinv _ _ hts; rfl) (by omega) (zWs trivial) (by rintro _ _ ⟨rfl,-⟩; simp) ?_ ?_ (fun l k ts H hts hI=> ?_) (fun H hI=> ?_) (fun e H hX=> ?_))
 ·rintro _ _ ⟨-,rfl,-⟩; simp
 ·exact ⟨rfl,rfl⟩
 ·obtain ⟨rfl,hp⟩:=hI;obtain ⟨w,hw,rfl⟩:=hinv _ _ hts;have hB1:=hB w;have ho:=hok w;have hz1:=hzl w;have htk:ws.take (k+1)=ws.take k++[w]:=by rw [List.take_add_one,hw]; rfl
  generalize gW w=gw at*;generalize A80 d (sN w)=sm at*;have hall:oS w=false->ws.all oS=false:=fun h=>by
   rw [List.all_eq_false];exact ⟨w,Qv hw,by rw [h]; simp⟩
  by_cases hc:sm<gw
  ·rw [decide_eq_true hc] at ho;simp only [mask,A45,List.zip_cons_cons,WV,List.zip_nil_left,List.foldl_cons,List.foldl_nil,List.set_cons_succ,List.set_cons_zero,ofT,A3v,A0v,XY,ZQ,ofT,A3v,toT,A0p,A0a,A0j,A0q,A3w,tG,A06,A0k,A05];refine zJ Qv5 (zc @hc Qv5) Qv5 (zc hB1 Qv5) Qv5 ?_;refine ⟨_,Weak.refl _ _,rfl,rfl,hall ho⟩
  ·rw [decide_eq_false hc] at ho;by_cases h2:((sN w).length:Int)=n
   ·rw [decide_eq_true h2] at ho;by_cases h3:sm=gw
    ·rw [decide_eq_true h3] at ho;simp only [mask,A45,List.zip_cons_cons,WV,List.zip_nil_left,List.foldl_cons,List.foldl_nil,List.set_cons_succ,List.set_cons_zero,ofT,A3v,A0v,XY,ZQ,ofT,A3v,toT,A0p,A0a,A0j,A0q,A3w,tG,A06,A0k,A05];refine zJ Qv5 (zc @hc (zc @h2 (zc @h3 (zc @A0e (zc @hz1 Qv5))))) Qv5 (zc hB1 Qv5) Qv5 ?_;refine ⟨⟨_,_⟩,Weak.head2 (m:=4) (by decide) ((fun t f=>[f,f,f,f,f,f,f,f,f,f,f,f,f,f,f,f,f,f,f,f,f,f,f,f,f,f,f,f,f,f,f,f]) true false) rfl rfl (zWs @B35),?_,?_⟩
     ·rfl
     ·rw [htk,List.all_append,hp,List.all_cons,ho]; rfl
    ·rw [decide_eq_false h3] at ho;simp only [mask,A45,List.zip_cons_cons,WV,List.zip_nil_left,List.foldl_cons,List.foldl_nil,List.set_cons_succ,List.set_cons_zero,ofT,A3v,A0v,XY,ZQ,ofT,A3v,toT,A0p,A0a,A0j,A0q,A3w,tG,A06,A0k,A05];refine zJ Qv5 (zc @hc (zc @h2 (zc @h3 (zc @A0e (zc @hz1 Qv5))))) Qv5 (zc hB1 Qv5) Qv5 ?_;refine ⟨_,Weak.refl _ _,rfl,rfl,hall ho⟩
   ·rw [decide_eq_false h2] at ho;simp only [mask,A45,List.zip_cons_cons,WV,List.zip_nil_left,List.foldl_cons,List.foldl_nil,List.set_cons_succ,List.set_cons_zero,ofT,A3v,A0v,XY,ZQ,ofT,A3v,toT,A0p,A0a,A0j,A0q,A3w,tG,A06,A0k,A05];refine zJ Qv5 (zc @hc (zc @h2 (zc @A0e (zc @hz1 Qv5)))) Qv5 (zc hB1 Qv5) Qv5 ?_;refine ⟨⟨_,_⟩,Weak.head2 (m:=4) (by decide) ((fun t f=>[f,f,f,f,f,f,f,f,f,f,f,f,f,f,f,f,f,f,f,f,f,f,f,f,f,f,f,f,f,f,f,f]) true false) rfl rfl (zWs @B35),?_,?_⟩
    ·rfl
    ·rw [htk,List.all_append,hp,List.all_cons,ho]; rfl
 ·obtain ⟨rfl,hp⟩:=hI;rw [hlenI,Zz] at hp;rw [hp];simp only [mask];refine zR Qv5 Qv5 Qv5 ?_;simp [A0s,A0r,Blk.cells,ty,Tryz.results64,A0o,A0p,toT,A0d,A0b,A0c,A0a,A0q]
 ·obtain ⟨rfl,rfl,hp⟩:=hX;rw [hp];simp only [A1x,A2G,mask];simp [A0s,A0r,Blk.cells,ty,Tryz.results64,A0o,A0p,toT,A0d,A0b,A0c,A0a,A0q]
def B37 (n q:Nat) (es:List E) (d s:List Int) {m:Nat} (hm:4≤m):A1N m [.box [.int .i64 (n:Int),.slice (A0f es) .none],.ro [.int .i64 (n:Int),.slice (A0f es)],.box (iC d),.box (iC s),.roC [.tree (.int .i64 (n:Int)),.tree (.slice (A0f es)),.tree (.int .i64 (q:Int)),.ref 2 1 0 n n,.ref 3 1 0 n n,.tree (.int .i64 0)]]:=by
 have hg:blkIn m (.box [.int .i64 (n:Int),.slice (A0f es) .none]):=by intro c hc; simp only [QV,XJ,or_false] at hc; rcases hc with rfl | rfl<;>exact Qv3
 exact A04 hg (A04 Qv3 (A04 A0V (A04 A0V (A04 (A0L hm) (A15 _)))))
def B38 (v:Nat) (Q:List Nat):A0l (zI (v::Q))=[.int .i64 (v:Int)]::A0l (zI Q):=rfl
def B2a (n q:Nat) (es:List E) (d s:List Int) (h1:1≤n) (h12:n≤12) (hq:q<n) (hd:d.length=n) (hs:s.length=n) (hl:es.length≤40) (hm: ∀e,e∈es->(0≤e.a∧e.a<n)∧(0≤e.b∧e.b<n)∧0≤e.m∧e.m≤50) (B:List Int) (pB:Nat) (hB:DEnd es (A8f n q,[q],0) B pB) (hBl:B.length=n):
  ACallH Tryz.prog 158 [.box [.int .i64 (n:Int),.slice (A0f es) .none],.ro [.int .i64 (n:Int),.slice (A0f es)],.box (iC d),.box (iC s),.roC [.tree (.int .i64 (n:Int)),.tree (.slice (A0f es)),.tree (.int .i64 (q:Int)),.ref 2 1 0 n n,.ref 3 1 0 n n,.tree (.int .i64 0)]] [.c (.ptr 4 0)] (([.box [.int .i64 (n:Int),.slice (A0f es) .none],.ro [.int .i64 (n:Int),.slice (A0f es)],.box (iC d),.box (iC s),.roC [.tree (.int .i64 (n:Int)),.tree (.slice (A0f es)),.tree (.int .i64 (q:Int)),.ref 2 1 0 n n,.ref 3 1 0 n n,.tree (.int .i64 0)]]++[.box (iC B)])++[.box [.ref 5 1 0 n n],.box [.slice [] (.tail 8 pB)],.chain pB 1]) (.c (.ref 5 1 0 n n)):=by
 have hlk:=fun H v h4=>C0f (H:=H) n q es v h4;have hI:=fun (v:Nat) (hv:v<n)=>B3a n es v (by omega) (fun e he=>by have:=hm e he; omega) (by omega);have hkb: ∀(v:Nat) x,x∈lnkL es v->0≤x.1∧x.1<n:=fun v x hx=>by
  obtain ⟨e,he,e1,_,e2⟩:=A74 hx;have:=hm e he;rcases e2 with ⟨_,e2⟩ | ⟨_,e2⟩<;>(rw [e2]; omega)
 have hqI:(q:Int)<(n:Int):=by omega
 have hRp:=B9Z n (by omega) [.box [.int .i64 (n:Int),.slice (A0f es) .none],.ro [.int .i64 (n:Int),.slice (A0f es)],.box (iC d),.box (iC s),.roC [.tree (.int .i64 (n:Int)),.tree (.slice (A0f es)),.tree (.int .i64 (q:Int)),.ref 2 1 0 n n,.ref 3 1 0 n n,.tree (.int .i64 0)]] (fun b hb=>B37 n q es d s (m:=6) (by decide) b hb);have hdn:iC d≠[]:=C0e (by intro e; rw [e] at hd; simp at hd; omega);have hsn:iC s≠[]:=C0e (by intro e; rw [e] at hs; simp at hs; omega);have hne: ∀{x:List Int},x.length=n->iC x≠[]:=fun {x} hx=>C0e (by intro e; rw [e] at hx; simp at hx; omega);have hrl:(List.replicate n (-1):List Int).length=n:=by simp
 have hr0:=A9j (List.replicate n (-1)) q 0;have hr0':(iC (List.replicate n (-1))).set q (.int .i64 0)=iC (A8f n q):=hr0;have hw0:=B6w (es:=es) hq;simp only [List.cons_append,List.nil_append] at hRp ⊢;refine ACallH.of_body Tryz.func158 rfl (by kernel_rfl) ?_;simp only [entry,Tryz.ntmps158,List.length_cons,List.length_nil,Nat.reduceAdd,Nat.reduceSub,List.replicate_succ,List.replicate_zero,List.cons_append,List.nil_append];refine zJc Qv5 (zc @hqI (zc @hr0' (zc @hrl (zc @A12 (zc @XX Qv5))))) Qv5 (zc hRp Qv5) Qv5 ?_;refine AWp.weak (Weak.tailB 7 0 1 rfl rfl (by simp)) ?_;simp only [List.set_cons_succ,List.set_cons_zero,List.length_cons,List.length_nil,Xv,Nat.reduceAdd,List.cons_append,List.nil_append];refine AWp.loopS (α:=BS3) 56 (fun w=>[(0,.c (.ptr 4 0)),(3,.c (.ptr 6 0)),(4,.c (.ptr 7 0))]) (fun w=>[.box [.int .i64 (n:Int),.slice (A0f es) .none],.ro [.int .i64 (n:Int),.slice (A0f es)],.box (iC d),.box (iC s),.roC [.tree (.int .i64 (n:Int)),.tree (.slice (A0f es)),.tree (.int .i64 (q:Int)),.ref 2 1 0 n n,.ref 3 1 0 n n,.tree (.int .i64 0)],.box (iC w.1),.box [.ref 5 1 0 n n],.box [.slice (A0l (zI w.2.1)) (.tail 8 w.2.2)],.chain w.2.2 1]) (fun w=>DEnd es w B pB∧BFq es n q w.1 w.2.1∧2*cntNeg w.1+w.2.1.length≤30) (fun w=>2*cntNeg w.1+w.2.1.length) ((A8f n q,[q],0)) (hk:=Weak.headL 9 56 [0,3,4] (zWs (zc @A0V (zc @A0O @A0L)))) (h0:=?_) (round:=fun w hI=>?_)
 ·refine ⟨hB,hw0,?_⟩;have:=hw0.bnd q hq;have:=hw0.q0;show 2*cntNeg (A8f n q)+1≤30;omega
 ·obtain ⟨o,Q,p⟩:=w;obtain ⟨hE,hF,hQb⟩:=hI;simp only at hE hF hQb ⊢;cases Q with
  | nil=>
   cases hE;have e0:(A0l (zI ([]:List Nat))).length=0:=rfl;have e1:A0l (zI ([]:List Nat))=[]:=rfl;refine zR (zc @e0 (zc @e1 Qv5)) Qv5 Qv5 ?_;simp [A4Q,A2f,A0o,A2e,Tryz.results158]
  | cons v Q=>
   have hP:=hF.pop;have hvn:=hP.vv.1;have hvI:(v:Int)<(n:Int):=by omega
   cases hE with
   | go hE=>
   have hall:=PBq.all (s:=(o,Q,p)) (hkb v) hP;have hcn:=PBq.cnt (s:=(o,Q,p)) (hkb v) hP;have hIk:=hI v hvn;have hkbv:=hkb v;have el:(0:Int)<((Q.length+1:Nat):Int):=by omega
   have hneJ: ∀l,iC (List.foldl (stepD v) (o,Q,p) l).1≠[]:=fun l=>hne ((B34 v l (o,Q,p)).trans hF.len);rw [B38];have hQl:=hF.len;refine zM (zc Qv5 (prt 6 1)) (zc @el (zc @A0e (zc @A3n Qv5))) Qv5 Qv5 Qv5 (ed fun hp hpc=>?_);simp only [Zy,Yq];refine AReg.step rfl rfl (A8b (k:=1) (i:=8) (p:=p) (rows:=[.int .i64 (v:Int)]::A0l (zI Q)) (l:=1) _ _ _ rfl 3 (by simp only [ty]) (by simp only [ty]) (.inr rfl) rfl (fun r hr=>by rcases QV.1 hr with rfl | hr; exact rfl; exact A1c hr) rfl (by decide) (by rw [List.length_cons]; omega)) ?_;simp only [A1a,List.set_cons_succ,List.set_cons_zero,Int.toNat_one,Zy,Yq];refine AReg.rest (fun K hK=> ?_);refine zM Qv5 (zc C8e Qv5) Qv5 (zc hlk Qv5) Qv5 (ed fun hp hpc=>?_);refine AWp.weak (Weak.head (m:=10) (by omega) ((fun t f=>[t,f,f,t,t,t,f,f,f,f,f,f,f,f,f,f,f,f,f,f,f,f,f,f,f,f,f,f,f,f,f,f,f,f,f,t,f,f,f,f,f,f,f,f,f,f,f,f,f,f,f,f,f,f,f,f]) true false) (by first | rfl | simp [mask]) (by first | rfl | simp) (zWs Qv5) (zWs (zc @A0V (zc @A0O @A0L)))) (AWp.rangeFunc (fun j H=>H=[.box [.int .i64 (n:Int),.slice (A0f es) .none],.ro [.int .i64 (n:Int),.slice (A0f es)],.box (iC d),.box (iC s),.roC [.tree (.int .i64 (n:Int)),.tree (.slice (A0f es)),.tree (.int .i64 (q:Int)),.ref 2 1 0 n n,.ref 3 1 0 n n,.tree (.int .i64 0)],.box (iC (((lnkL es v).take j).foldl (stepD v) (o,Q,p)).1),.box [.ref 5 1 0 n n],.box [.slice (A0l (zI (((lnkL es v).take j).foldl (stepD v) (o,Q,p)).2.1)) (.tail 8 (((lnkL es v).take j).foldl (stepD v) (o,Q,p)).2.2)],.chain (((lnkL es v).take j).foldl (stepD v) (o,Q,p)).2.2 1,.box [.int .i64 (v:Int)]]∧(True)) (fun _ _=>False) 10 rfl (hIk) (B3m rfl) (by omega) (zWs Qv5) (by rintro _ _ ⟨rfl,-⟩; simp [hdn,hsn,hneJ]) (fun _ _ h=>h.elim) ?_ (fun l j ts H hts hI=> ?_) (fun H hI=> ?_) (fun e H h=>h.elim))
   ·exact ⟨rfl,trivial⟩
   ·obtain ⟨rfl,-⟩:=hI;obtain ⟨x,hx,rfl⟩:=A7v hts;have hj:j<(lnkL es v).length:=(Qx.1 hx).1;have hxb:=hkbv x (Qv hx);have hnx:=B7P v (o,Q,p) hx;have hPj:=hall j (by omega);have hcj:=hcn j (by omega);rw [List.length_cons] at hQb;have hlj:=hPj.len;have hbj:=hPj.bnd v hvn;have hcn0:=hPj.vv.2;have hqm:=hPj.qm;generalize ((lnkL es v).take j).foldl (stepD v) (o,Q,p)=sj at*;generalize hnj:((lnkL es v).take (j+1)).foldl (stepD v) (o,Q,p)=sj1 at*;obtain ⟨oj,Qj,pj⟩:=sj;obtain ⟨u,m⟩:=x;obtain ⟨u1,u2⟩:=hxb;obtain ⟨z,rfl⟩:=Zx u1;have hzI:(z:Int)<(n:Int):=u2;unfold stepD at hnx;simp only [Int.toNat_natCast] at hnx hlj hbj hcj hcn0 ⊢;have g1:=A5K (A1t (d:=oj) (i:=z) (by omega));have g2:=A5K (A1t (d:=oj) (i:=v) (by omega));have hst:=A9j oj z (oj.getD v 0+1);generalize oj.getD z 0=oz at*;generalize oj.getD v 0=ov at*;simp only [mask,A45,List.zip_cons_cons,WV,List.zip_nil_left,List.foldl_cons,List.foldl_nil,List.set_cons_succ,List.set_cons_zero,ofT,A3v,A0v,XY,ZQ,ofT,A3v,toT,A0p,A0a,A0j,A0q,A3w,tG,A06,A0k,B0D];by_cases hneg:oz<0
    ·rw [if_pos hneg] at hnx;have hzs:=B4M Qj z;have hzl:=A3n Qj;refine zRc (zc @hzI (zc @hvI (zc @g1 (zc @g2 (zc @hst (zc @hneg (zc @A12 (zc @hlj (zc @A0e (zc @A2w (zc @hzs (zc @hzl (zc @XX Qv5))))))))))))) Qv5 @A1c ?_;refine ⟨⟨_,_⟩,Weak.head2 (m:=10) (by decide) ((fun t f=>[f,f,f,f,f,f,f,f,f,f,f,f,f,f,f,f,f,f,f,f,f,f,f,f,f,f,f,f,f,f,f,f,f,f,f,f,f,f,f,f,f,f,f,f,f,f,f,f,f,f,f,f,f,f,f,f]) true false) rfl rfl (zWs (zc @A0V (zc @A0O @A0L))),?_,?_⟩
     ·rw [hnj,hnx]; rfl
     ·trivial
    ·rw [if_neg hneg] at hnx;refine zR (zc @hzI (zc @g1 (zc @hneg (zc @A12 (zc @hlj (zc @XX Qv5)))))) Qv5 Qv5 ?_;refine ⟨⟨_,_⟩,Weak.head2 (m:=10) (by decide) ((fun t f=>[f,f,f,f,f,f,f,f,f,f,f,f,f,f,f,f,f,f,f,f,f,f,f,f,f,f,f,f,f,f,f,f,f,f,f,f,f,f,f,f,f,f,f,f,f,f,f,f,f,f,f,f,f,f,f,f]) true false) rfl rfl (zWs (zc @A0V (zc @A0O @A0L))),?_,?_⟩
     ·rw [hnj,hnx]; rfl
     ·trivial
   ·obtain ⟨rfl,-⟩:=hI;rw [A7u,Zz];have hd1:=hall _ (Qk _);have hc1:=hcn _ (Qk _);rw [Zz] at hd1 hc1;simp only [mask];refine zR Qv5 Qv5 Qv5 ?_;refine ⟨B8o es v (o,Q,p),Weak.headN 9 56 [0,3,4] (zWs (zc @A0V (zc @A0O @A0L))),?_,?_⟩
    ·refine ⟨hE,hd1.done,?_⟩;rw [List.length_cons] at hQb;show 2*cntNeg (B8o es v (o,Q,p)).1+(B8o es v (o,Q,p)).2.1.length≤30;have:2*cntNeg (B8o es v (o,Q,p)).1+(B8o es v (o,Q,p)).2.1.length≤2*cntNeg o+Q.length:=hc1;omega
    ·show 2*cntNeg (B8o es v (o,Q,p)).1+(B8o es v (o,Q,p)).2.1.length<2*cntNeg o+(v::Q).length;rw [List.length_cons];have:2*cntNeg (B8o es v (o,Q,p)).1+(B8o es v (o,Q,p)).2.1.length≤2*cntNeg o+Q.length:=hc1;omega
noncomputable def B3Q (r:R) (t:List Int):Int:=if ribE r≠0 then ribE r else A8e r.g t
def C33 {n:Int}: ∀{p:Option Int} {l:List Int},A49 n p l=0-> ∀x,x∈l->0≤x∧x<n:=fun h=>A76 h
def B2b {r:R} {t:List Int} (h:B3Q r t=0):RTree r t∧((t.length:Int)=r.n-1):=by
 unfold B3Q at h;by_cases h1:ribE r≠0
 ·rw [if_pos h1] at h; exact absurd h h1
 ·rw [if_neg h1] at h;have hr:=B9D (show ribE r=0 by omega);unfold A8e at h;by_cases h2:A0m r.g≠0
  ·rw [if_pos h2] at h; exact absurd h h2
  ·rw [if_neg h2] at h;by_cases h3:A49 (endsL r.g.es).length none t≠0
   ·rw [if_pos h3] at h; exact absurd h h3
   ·rw [if_neg h3] at h;by_cases h4:(t.length:Int)≠r.g.n-1
    ·rw [if_pos h4] at h; omega
    ·rw [if_neg h4] at h;have h5:treeB r.g.n.toNat (endsL r.g.es) t=true:=by
      cases q:treeB r.g.n.toNat (endsL r.g.es) t with
      | true=>rfl
      | false=>rw [q] at h; simp at h
     exact ⟨⟨hr,C33 (p:=none) (show A49 ((endsL r.g.es).length:Int) none t=0 by omega),h5⟩,by show _=r.g.n-1; omega⟩
def A9G (r:R) (t:List Int) (hs:RSm r) (htl:t.length<2^40):ACall Tryz.prog 52 [tR r,A0k t] (A0j (B3Q r t)):=by
 have hC:=B3j r hs;have hT:=C0t r.g t hs.es htl;unfold B3Q;obtain ⟨n,es,ar⟩:=r;change ACall _ _ [tG ⟨n,es⟩,_] _ at hT;by_cases h:ribE ⟨n,es,ar⟩=0
 ·rw [if_neg (by omega)];rw [h] at hC;refine ACall.of_body Tryz.func52 rfl (by kernel_rfl) ?_;simp only [entry,Tryz.ntmps52,tR];refine zU ?_;refine zR Qv5 (zc hC (zc hT Qv5)) Qv5 ?_;simp [A0s,A0r,Blk.cells,ty,Tryz.results52,A0o,A0p,toT,A0d,A0b,A0c,A0a,A0j]
 ·rw [if_pos h];generalize ribE ⟨n,es,ar⟩=e at*;refine ACall.of_body Tryz.func52 rfl (by kernel_rfl) ?_;simp only [entry,Tryz.ntmps52,tR];refine zU ?_;refine zR (zc @h Qv5) (zc hC Qv5) Qv5 ?_;simp [A0s,A0r,Blk.cells,ty,Tryz.results52,A0o,A0p,toT,A0d,A0b,A0c,A0a,A0j]
def B39 {r:R} {t:List Int} {k:Nat} {ts:List TVal} (h:(B0b r t)[k]? =some ts):k<2*(endsL r.es).length∧ts=[A0j (tourN r t k:Nat),A0j (gR (endsL r.es) (tourN r t k):Nat)]:=by
 have hk:=(Qx.1 h).1;rw [A6N] at hk;rw [B3z hk] at h;exact ⟨hk,(JX h).symm⟩
def B3A (r:R) (t:List Int):ACall Tryz.prog 53 [tR r,A0k t] (.t (.fn 99 [.rptr [.int .i64 r.n,.slice (A0f r.es),.slice (A0n r.ar)],.rptr [.slice (A0l t)]])):=by
 obtain ⟨n,es,ar⟩:=r;refine ACall.of_body Tryz.func53 rfl (by kernel_rfl) ?_;simp only [entry,Tryz.ntmps53,tR,A0k];refine zU ?_;refine zR Qv5 Qv5 Qv5 ?_;simp [A0s,A0r,Blk.cells,ty,Tryz.results53,A0o,A0p,toT,A0d,A0b,A0c,A0a]
def C1e (r:R) (t:List Int) (hs:RSm r) (htl:t.length<2^40):ACall Tryz.prog 12 [tR r,A0k t] (.tup [A0k (if B3Q r t≠0 then [] else tourL r t (2*(endsL r.es).length)),A0j (B3Q r t)]):=by
 have hg:=A9G r t hs htl;by_cases h0:B3Q r t=0
 ·rw [if_neg (by omega),h0];rw [h0] at hg;have hT:=(B2b h0).1;have hw:=B3A r t;have hIt:=B6r r t hs hT htl;have hinv:=fun k ts h=>B39 (r:=r) (t:=t) (k:=k) (ts:=ts) h;have hsu:=B7K r t;have hll:=C0Q r t;have hil:=A6N r t;have hlen:(endsL r.es).length≤2000:=A2O (g:=r.g) hs.es hT.ok.c;have hz:A0l (tourL r t 0)=[]:=rfl;clear hT h0;generalize B0b r t=xs at*;generalize tourL r t=tl at*;generalize tourN r t=tn at*;obtain ⟨n,es,ar⟩:=r;simp only at*;generalize endsL es=L at*;refine ACall.of_body Tryz.func12 rfl (by kernel_rfl) ?_;simp only [entry,Tryz.ntmps12,tR];refine zU ?_;refine zR Qv5 (zc hg (zc hw Qv5)) Qv5 ?_;refine AWp.weak (Weak.openB 1 0 1 rfl rfl (by omega)) ?_;simp only [List.set_cons_succ,List.set_cons_zero,List.length_cons,List.length_nil,Xv,Nat.reduceAdd,List.cons_append,List.nil_append];refine AWp.weak (Weak.head (m:=3) (by omega) ((fun t f=>[f,t,t,f,f,f,f,t,f,f,f,f,f,f,f,f,f,t,f,f,f,f,f,f,f]) true false) (by first | rfl | simp [mask]) (by first | rfl | simp) (zWs trivial) (zWs trivial)) (AWp.rangeFunc (fun k H=>H=[.box [.int .i64 n,.slice (A0f es) .none,.slice (A0n ar) .none],.box [.slice (A0l (tl k)) (.chain 2)],.chain k 1]∧(True)) (fun _ _=>False) 3 rfl (hIt) (fun k ts hts=>by obtain ⟨_,rfl⟩:=hinv _ _ hts; rfl) (by omega) (zWs trivial) (by rintro _ _ ⟨rfl,-⟩; simp) (fun _ _ h=>h.elim) ?_ (fun l k ts H hts hI=> ?_) (fun H hI=> ?_) (fun e H h=>h.elim))
  ·exact ⟨by rw [hz]; rfl,trivial⟩
  ·obtain ⟨rfl,-⟩:=hI;obtain ⟨hk,rfl⟩:=hinv _ _ hts;have hs1:=hsu k;have hl1:=hll k;generalize hT2:tl (k+1)=T2 at*;generalize tl k=T at*;simp only [mask,A45,List.zip_cons_cons,WV,List.zip_nil_left,List.foldl_cons,List.foldl_nil,List.set_cons_succ,List.set_cons_zero,ofT,A3v,A0v,XY,ZQ,ofT,A3v,toT,A0p,A0a,A0j,A0q,A3w,tG,A06,A0k,A05];refine zRc (zc @A0e (zc @A2w (zc @hl1 Qv5))) Qv5 @A1c ?_;rw [<-hs1];refine ⟨⟨_,_⟩,Weak.head2 (m:=3) (by decide) ((fun t f=>[f,f,f,f,f,f,f,f,f,f,f,f,f,f,f,f,f,f,f,f,f,f,f,f,f]) true false) rfl rfl zW,?_,?_⟩
   ·rw [hT2]; rfl
   ·trivial
  ·obtain ⟨rfl,-⟩:=hI;rw [hil];simp only [mask];refine zR Qv5 Qv5 Qv5 ?_;simp [A0s,A0r,Blk.cells,ty,Tryz.results12,A0o,A0p,toT,A0d,A0b,A0c,A0a,A0j,A0k]
 ·rw [if_pos h0];generalize B3Q r t=e at*;obtain ⟨n,es,ar⟩:=r;refine ACall.of_body Tryz.func12 rfl (by kernel_rfl) ?_;simp only [entry,Tryz.ntmps12,tR];refine zU ?_;refine zR (zc @h0 Qv5) (zc hg Qv5) Qv5 ?_;simp [A0s,A0r,Blk.cells,ty,Tryz.results12,A0o,A0p,toT,A0d,A0b,A0c,A0a,A0j,A0k,A0l]
def B6x (r:R) (t:List Int) (k:Nat):List Int:=B9o r.n.toNat (B8n (A3u t) (gR (endsL r.es)) (tourN r t) k)
def C4h (r:R) (t:List Int) (k:Nat):Bool:=C6j (A3u t) (tourN r t) k
def B2c (r:R) (t:List Int) (k:Nat):(B6x r t k).length=r.n.toNat:=A8q _ _
def A81 (r:R) (t:List Int) (k:Nat) {v:Nat} (hv:v<r.n.toNat):(B6x r t k)[v]? =some (B8n (A3u t) (gR (endsL r.es)) (tourN r t) k v):=B1A _ hv
def C1f (r:R) (t:List Int):B6x r t 0=List.replicate r.n.toNat 0:=by
 refine Zq fun v=> ?_;by_cases hv:v<r.n.toNat
 ·rw [A81 r t 0 hv,Qq2,if_pos hv]; rfl
 ·rw [Xq (by rw [B2c]; omega),Xq (by simp; omega)]
def C1g (r:R) (t:List Int) (k:Nat) (h:C4h r t k=false):B6x r t (k+1)=B6x r t k:=by
 unfold B6x;refine B09 fun v _=> ?_;unfold B8n;rw [sumR,if_neg (fun q=>by have:=q.1; unfold C4h at h; rw [h] at this; cases this)]; omega
def C34 (r:R) (t:List Int) (k:Nat) (h:C4h r t k=true) (hv:gR (endsL r.es) (tourN r t k)<r.n.toNat):(B6x r t k).set (gR (endsL r.es) (tourN r t k)) (B8n (A3u t) (gR (endsL r.es)) (tourN r t) k (gR (endsL r.es) (tourN r t k))+1)=B6x r t (k+1):=by
 unfold B6x;rw [C23 _ _ hv];refine B09 fun v _=> ?_;unfold C4h at h;by_cases e:v=gR (endsL r.es) (tourN r t k)
 ·subst e;rw [if_pos rfl];unfold B8n;rw [sumR,if_pos ⟨h,rfl⟩]
 ·rw [if_neg e];unfold B8n;rw [sumR,if_neg (fun q=>e q.2.symm)]; omega
def B6y (b:Nat->Bool) (g tn:Nat->Nat) (v:Nat): ∀k:Nat,0≤B8n b g tn k v∧B8n b g tn k v≤k
 | 0=>⟨Jj _,Jj _⟩
 | k+1=>by
  have:=B6y b g tn v k;unfold B8n at*;rw [sumR];split<;>omega
def C1h {r:R} {t:List Int} {k x:Nat}:((x:Nat):Int)∈tourL r t k↔x∈(List.range k).map (tourN r t):=by
 unfold tourL;rw [QY,QY];constructor
 ·rintro ⟨i,hi,e⟩; exact ⟨i,hi,by omega⟩
 ·rintro ⟨i,hi,rfl⟩; exact ⟨i,hi,rfl⟩
def A3K (tn:Nat->Nat):Nat->List Nat
 | 0=>[]
 | k+1=>if tn k / 2∈A3K tn k then A3K tn k else A3K tn k++[tn k / 2]
def A9H (tn:Nat->Nat) {x:Nat}: ∀k:Nat,x∈A3K tn k↔ ∃i,i<k∧tn i / 2=x
 | 0=>by simp [A3K]
 | k+1=>by
  have ih:=A9H tn (x:=x) k;rw [A3K];split
  ·rename_i h;rw [ih];constructor
   ·rintro ⟨i,hi,e⟩; exact ⟨i,by omega,e⟩
   ·rintro ⟨i,hi,e⟩;by_cases hik:i=k
    ·subst hik; rw [<-e]; exact (A9H tn _).1 h
    ·exact ⟨i,by omega,e⟩
  ·rw [XZ,ih,XQ];constructor
   ·rintro (⟨i,hi,e⟩ | e)
    ·exact ⟨i,by omega,e⟩
    ·exact ⟨k,by omega,e.symm⟩
   ·rintro ⟨i,hi,e⟩;by_cases hik:i=k
    ·subst hik; exact .inr e.symm
    ·exact .inl ⟨i,by omega,e⟩
def C35 {r:R} {t:List Int} (h:TourS r t) {k:Nat} (hk:k<2*(endsL r.es).length):C4h r t k=(!decide (((tourN r t k / 2:Nat):Int)∈t)&&decide (tourN r t k / 2∉A3K (tourN r t) k)):=by
 unfold C4h C6j A3u;congr 1;rw [decide_eq_decide,A9H];refine not_congr ?_;rw [QY];constructor
 ·rintro ⟨i,hi,e⟩;exact ⟨i,Xk.1 hi,by rw [e,C4c]⟩
 ·rintro ⟨i,hi,e⟩;refine ⟨i,Xk.2 hi,?_⟩;rcases A2V e with q | q
  ·exact absurd (C1h.2 (QY.2 ⟨i,Xk.2 hi,q⟩)) (h.new k hk)
  ·exact q
def C6Y {l:List Nat} {x:Nat} (h:x∈l) (z:MV):A7g (mB l) (.int (x:Int)) z= .c (.bool true):=by
 have hi: ∃i,mIdx (mB l) (.int (x:Int))=some i:=by
  cases hx:mIdx (mB l) (.int (x:Int)) with
  | some i=>exact ⟨i,rfl⟩
  | none=>
   unfold mIdx at hx;rw [List.findIdx?_eq_none_iff] at hx;have:=hx (.int (x:Int),.c (.bool true)) (QY.2 ⟨x,h,rfl⟩);simp at this
 obtain ⟨i,hi⟩:=hi;obtain ⟨v,hv⟩:=B2z hi;have hm:=Qv hv;obtain ⟨y,_,e⟩:=QY.1 hm;injection e with e1 e2;simp [A7g,hi,hv,<-e2]
def A2E (r:R) (t:List Int) (hs:RSm r) (h:RTree r t) (htl:t.length<2^40):ACall Tryz.prog 56 [tR r,A0k t] (A0k (B6x r t (2*(endsL r.es).length))):=by
 have hr:=h.ok;have hw:=B3A r t;have hIt:=B6r r t hs h htl;have hinv:=fun k ts h=>B39 (r:=r) (t:=t) (k:=k) (ts:=ts) h;have hil:=A6N r t;have hlen:(endsL r.es).length≤2000:=A2O (g:=r.g) hs.es hr.c;have h12:=(A0h.1 hr.c).1;have hdl:=B2c r t;have hdg:=fun k v hv=>A81 r t k (v:=v) hv;have hdz:=C1f r t;have hsk:=C1g r t;have hpu:=C34 r t;have hrg:=fun v k=>B6y (A3u t) (gR (endsL r.es)) (tourN r t) v k;have hgl:=(A2C hr).lt;have hlt: ∀k,k<2*(endsL r.es).length->tourN r t k<2*(endsL r.es).length:=fun k hk=>(h.tourS (by omega)).lt k hk;have hcn: ∀k,k<2*(endsL r.es).length->C4h r t k=(!decide (((tourN r t k / 2:Nat):Int)∈t)&&decide (tourN r t k / 2∉A3K (tourN r t) k)):=fun k hk=>C35 (h.tourS (by omega)) hk;obtain ⟨nN,hnN⟩:=Zx (show 0≤r.n by show 0≤r.g.n; omega);have h12':1≤nN∧nN≤12:=by have:r.g.n=r.n:=rfl; omega
 clear h hr;generalize B0b r t=xs at*;generalize B6x r t=dl at*;generalize C4h r t=cn at*;generalize tourN r t=tn at*;obtain ⟨n,es,ar⟩:=r;simp only at*;subst hnN;generalize endsL es=L at*;simp only [Int.toNat_natCast] at*;generalize B8n (A3u t) (gR L) tn=dT at*;have hne: ∀k,iC (dl k)≠[]:=fun k=>by
  intro e;have h1:(iC (dl k)).length=0:=by rw [e]; rfl
  rw [A12,hdl k] at h1; omega
 have hnI:(0:Int)≤(nN:Int):=by omega
 refine ACall.of_body Tryz.func56 rfl (by kernel_rfl) ?_;simp only [entry,Tryz.ntmps56,tR,A0k];refine zU ?_;refine zJ (stop 2) (zc @A1R (zc @XX Qv5)) Qv5 Qv5 Qv5 ?_;rw [<-hdz];refine zM (zc Qv5 (prt 2 1)) Qv5 Qv5 Qv5 Qv5 (ed fun hp hpc=>?_);simp only [Zy,Yq];refine AReg.allocR (z:= .map none) rfl rfl rfl (by simp only [ty]) rfl ?_;simp only [A1a,List.set_cons_succ,List.set_cons_zero,List.length_cons,List.length_nil,Nat.reduceAdd,List.cons_append,List.nil_append];refine AReg.rest (fun K hK=> ?_)
 repeat' (first|((first|(refine zT ?_;intro K' hK')|(refine zG ?_ ?_<;>(try refine zH ?_)<;>intro hguard<;>(try exact zX)<;>try intro K' hK'))<;>((try simp+contextual only [go_sem,tR,A0k,ofT,A3v,A0v,XY,ZQ]);(repeat' first|(with_reducible refine hK' _ _ ?_;clear hK' K')|(with_reducible refine zK hw ?_;try simp+contextual only [go_sem,tR,A0k,ofT,A3v,A0v,XY,ZQ])|exact zY|with_reducible refine Qv4 ?_ ?_|(with_reducible intro hpath;try exact zP)|(refine hK' _ _ ?_;clear hK' K')|fail);try refine zS ?_))|(refine zE ?_;refine hK _ _ ?_;clear hK K)|(refine zN ?_;try refine zS ?_)|refine zA ?_|(refine zB ?_;intro K hK)|(refine zC ?_ ?_<;>(try refine zH ?_)<;>intro hcond<;>try exact zX)|fail)
 refine AWp.weak (Weak.head (m:=6) (by omega) ((fun t f=>[f,f,t,t,f,t,t,f,f,f,f,f,f,f,f,f,f,t,f,f,f,f,f,f,f,f,f,f,f,f,f,f,f,f,f,f,f,f,f]) true false) (by first | rfl | simp [mask]) (by first | rfl | simp) (zWs trivial) (zWs trivial)) (AWp.rangeFunc (fun k H=>H=[.box [.int .i64 (nN:Int),.slice (A0f es) .none,.slice (A0n ar) .none],.box [.slice (A0l t) .none],.box (iC (dl k)),.box [.ref 2 1 0 nN nN],.map (mB (A3K tn k)),.box [.map 4]]∧(True)) (fun _ _=>False) 6 rfl (hIt) (fun k ts hts=>by obtain ⟨_,rfl⟩:=hinv _ _ hts; rfl) (by omega) (zWs trivial) (by rintro _ _ ⟨rfl,-⟩; simp [hne]) (fun _ _ h=>h.elim) ?_ (fun l k ts H hts hI=> ?_) (fun H hI=> ?_) (fun e H h=>h.elim))
 ·exact ⟨rfl,trivial⟩
 ·obtain ⟨rfl,-⟩:=hI;obtain ⟨hkl,rfl⟩:=hinv _ _ hts;have hx:=hlt k hkl;have hv:=hgl _ hx;have c2:=A5X t ((tn k / 2:Nat):Int) htl;have hd:(((tn k:Nat):Int)).tdiv 2=((tn k / 2:Nat):Int):=rfl;have hc:=hcn k hkl;have hsn:A3K tn (k+1)=if tn k / 2∈A3K tn k then A3K tn k else A3K tn k++[tn k / 2]:=rfl
  have hl0:=hdl k;have hg0:=hdg k _ hv;have hr0:=hrg (gR L (tn k)) k;have hs0:=hsk k;have hp0:=hpu k;have hvI:((gR L (tn k):Nat):Int)<(nN:Int):=by omega
  clear hsk hpu hdl hdg hrg hcn hIt;by_cases hseen:tn k / 2∈A3K tn k
  ·rw [if_pos hseen] at hsn;have hval:=C6Y hseen (.c (.bool false));have hcf:cn k=false:=by rw [hc]; simp [hseen]
   have hdd:=hs0 hcf;generalize hS2:A3K tn (k+1)=S2 at*;generalize A3K tn k=S at*;generalize hD2:dl (k+1)=D2 at*;generalize dl k=D at*;generalize tn k=x at*;subst hsn hdd;simp only [mask,A45,List.zip_cons_cons,WV,List.zip_nil_left,List.foldl_cons,List.foldl_nil,List.set_cons_succ,List.set_cons_zero,ofT,A3v,A0v,XY,ZQ,ofT,A3v,toT,A0p,A0a,A0j,A0q,A3w,tG,A06,A0k,A05];refine zM Qv5 (zc @hd (zc @hval Qv5)) Qv5 (zc (zc A8c C52) Qv5) Qv5 (ed fun hp hpc=>?_);refine ⟨⟨_,_⟩,Weak.head2 (m:=6) (by decide) ((fun t f=>[f,f,f,f,f,f,f,f,f,f,f,f,f,f,f,f,f,f,f,f,f,f,f,f,f,f,f,f,f,f,f,f,f,f,f,f,f,f,f]) true false) rfl rfl zW,?_,?_⟩
   ·rw [hS2,hD2]; rfl
   ·trivial
  ·rw [if_neg hseen] at hsn;have hval:=C6T hseen (.c (.bool false));have hput:=C6U hseen;rw [<-hsn] at hput;by_cases hm:((tn k / 2:Nat):Int)∈t
   ·rw [decide_eq_true hm] at c2;have hcf:cn k=false:=by rw [hc,decide_eq_true hm]; simp
    have hdd:=hs0 hcf;generalize hS2:A3K tn (k+1)=S2 at*;generalize A3K tn k=S at*;generalize hD2:dl (k+1)=D2 at*;generalize dl k=D at*;generalize tn k=x at*;subst hdd;simp only [mask,A45,List.zip_cons_cons,WV,List.zip_nil_left,List.foldl_cons,List.foldl_nil,List.set_cons_succ,List.set_cons_zero,ofT,A3v,A0v,XY,ZQ,ofT,A3v,toT,A0p,A0a,A0j,A0q,A3w,tG,A06,A0k,A05];refine zM Qv5 (zc @hd (zc @hval (zc @hput Qv5))) (zc c2 Qv5) (zc (zc A8c C52) Qv5) Qv5 (ed fun hp hpc=>?_);refine ⟨⟨_,_⟩,Weak.head2 (m:=6) (by decide) ((fun t f=>[f,f,f,f,f,f,f,f,f,f,f,f,f,f,f,f,f,f,f,f,f,f,f,f,f,f,f,f,f,f,f,f,f,f,f,f,f,f,f]) true false) rfl rfl zW,?_,?_⟩
    ·rw [hS2,hD2]; rfl
    ·trivial
   ·rw [decide_eq_false hm] at c2;have hct:cn k=true:=by rw [hc,decide_eq_false hm,decide_eq_true hseen]; rfl
    have hpp:=hp0 hct hv;have hi0:=A5K hg0;have hst:=A9j (dl k) (gR L (tn k)) (dT k (gR L (tn k))+1);rw [hpp] at hst;generalize hS2:A3K tn (k+1)=S2 at*;generalize A3K tn k=S at*;generalize hD2:dl (k+1)=D2 at*;generalize dT k (gR L (tn k))=c at*;generalize dl k=D at*;generalize gR L (tn k)=v at*;generalize tn k=x at*;simp only [mask,A45,List.zip_cons_cons,WV,List.zip_nil_left,List.foldl_cons,List.foldl_nil,List.set_cons_succ,List.set_cons_zero,ofT,A3v,A0v,XY,ZQ,ofT,A3v,toT,A0p,A0a,A0j,A0q,A3w,tG,A06,A0k,A05];refine zM Qv5 (zc @hd (zc @hval (zc @hput (zc @hi0 (zc @hst (zc @hl0 (zc @hvI (zc @A12 Qv5)))))))) (zc c2 Qv5) (zc (zc A8c C52) Qv5) Qv5 (ed fun hp hpc=>?_);refine ⟨⟨_,_⟩,Weak.head2 (m:=6) (by decide) ((fun t f=>[f,f,f,f,f,f,f,f,f,f,f,f,f,f,f,f,f,f,f,f,f,f,f,f,f,f,f,f,f,f,f,f,f,f,f,f,f,f,f]) true false) rfl rfl zW,?_,?_⟩
    ·rw [hS2,hD2]; rfl
    ·trivial
 ·obtain ⟨rfl,-⟩:=hI;rw [hil];have hl1:=hdl (2*L.length);clear hsk hpu hdl hdg hrg hcn hIt hne;generalize dl (2*L.length)=d at*;generalize mB (A3K tn (2*L.length))=mm at*;have hr0:A0d [.box [.int .i64 (nN:Int),.slice (A0f es) .none,.slice (A0n ar) .none],.box [.slice (A0l t) .none],.box (iC d),.box [.ref 2 1 0 nN nN],.map mm,.box [.map 4]] (.ref 2 1 0 nN nN)=some (.slice (A0l d)):=B0T hl1 rfl;simp only [mask];refine zM trivial trivial trivial trivial trivial (ed fun hp hpc=>?_);simp [A0s,A0r,Tryz.results56,A0o,A0p,toT,hr0,A0k]
section
variable {n:Nat} {es:List E}
def C6Z (h:EsOk n es) {v:Nat} {x:Int×Int} (hx:x∈lnkL es v):x.1.toNat<n∧x.1.toNat≠v∧0≤x.1:=by
 obtain ⟨e,he,_,hne,hab⟩:=A74 hx;have:=h.rng e he;rcases hab with ⟨q1,q2⟩ | ⟨q1,q2⟩<;>omega
def C80 (R:List Bool):Nat->Bool:=fun v=>R.getD v false
def Led (n:Nat) (es:List E) (d0 d s:List Int):Prop:= ∀w,w<n->d.getD w 0=d0.getD w 0-lap n (mulE es) (fun u=>s.getD u 0) w
end
def C7V (far:List Int) (k:Int):List Bool:=far.map fun x=>decide (x<k)
section
variable {n:Nat} {es:List E}
structure LInv (n:Nat) (es:List E) (far d0:List Int) (k X:Int) (w:List Int×List Int):Prop where
 dl:w.1.length=n
 sl:w.2.length=n
 led:Led n es d0 w.1 w.2
 db:bndL X w.1
 sb:bndL X w.2
 sp: ∀v,0≤w.2.getD v 0
 don: ∀v,v<n->k<far.getD v 0->0≤w.1.getD v 0
def C8c (S:Nat->Bool):List E->Int
 | []=>0
 | e::es=>(if S e.a.toNat≠S e.b.toNat then e.m else 0)+C8c S es
def levF (es:List E) (far:List Int) (k:Nat):Int:=C8c (C80 (C7V far (k:Int))) es
def powF (z:Nat->Int) (X:Int):Nat->Int
 | 0=>X
 | k+1=>powF z (X+z (k+1)*X) k
end
end Go.Proofs.YtdbdfkohpjefjaaGreat
