/- A part of the proof. -/
import Derived.Test.YtdbdfkohpjefjaaGreatPart29
set_option linter.all false
set_option maxHeartbeats 4000000
set_option maxRecDepth 100000
namespace Go.Proofs.YtdbdfkohpjefjaaGreat
open Go.Sp
def C3H (n q:Nat) (es:List E) (d s:List Int) (h1:1≤n) (h12:n≤12) (hq:q<n) (hd:d.length=n) (hs:s.length=n) (hl:es.length≤40) (hm: ∀e,e∈es->(0≤e.a∧e.a<n)∧(0≤e.b∧e.b<n)∧0≤e.m∧e.m≤50) (far:List Int) (pB:Nat) (hB:DEnd es (A8f n q,[q],0) far pB) (hf:BFq es n q far []) (hd0: ∀v,v<n->v≠q->0≤d.getD v 0) (hdb:bndL 1048576 d):
  ACallH Tryz.prog 117 [.box [.int .i64 (n:Int),.slice (A0f es) .none],.ro [.int .i64 (n:Int),.slice (A0f es)],.box (iC d),.box (iC s),.roC [.tree (.int .i64 (n:Int)),.tree (.slice (A0f es)),.tree (.int .i64 (q:Int)),.ref 2 1 0 n n,.ref 3 1 0 n n,.tree (.int .i64 0)]] [.c (.ptr 4 0)] [.box [.int .i64 (n:Int),.slice (A0f es) .none],.ro [.int .i64 (n:Int),.slice (A0f es)],.box (iC d),.box (iC s),.roC [.tree (.int .i64 (n:Int)),.tree (.slice (A0f es)),.tree (.int .i64 (q:Int)),.ref 2 1 0 n n,.ref 3 1 0 n n,.tree (.int .i64 0)]] (.tup []):=by
 have hfl:=hf.len;have hfb: ∀v,v<n-> -1≤far.getD v 0∧far.getD v 0≤n-1:=fun v hv=>by have:=hf.bnd v hv; omega
 obtain ⟨i0,hi0,hmx⟩:=B66 far (n-1);have hmx0:=B65 far (n-1) q (by omega);have hq0:=hf.q0;rw [hq0] at hmx0;have hmxb:=hfb i0 (by omega);have hMx:=C7i far (by intro e; rw [e] at hfl; simp at hfl; omega) (by omega);rw [hfl] at hMx;obtain ⟨k9,hk9⟩:=Zx hmx0;have hKn:k9≤n-1:=by omega
 rw [hk9] at hMx;have hDi:=B3J n q es d s h1 h12 hq hd hs hl hm far pB hB hfl;clear hmx hmx0 hf hB;refine ACallH.of_body Tryz.func117 rfl (by kernel_rfl) ?_;simp only [entry,Tryz.ntmps117,List.length_cons,List.length_nil,Nat.reduceAdd,Nat.reduceSub,List.replicate_succ,List.replicate_zero,List.cons_append,List.nil_append];refine zM (zc Qv5 (prt 1 1)) Qv5 Qv5 (zc hDi Qv5) Qv5 (ed fun hp hpc=>?_);simp only [Zy,Yq];refine AReg.step (rv:= .c (.bfn 159 [.ptr 4 0])) (H':=[.box [.int .i64 (n:Int),.slice (A0f es) .none],.ro [.int .i64 (n:Int),.slice (A0f es)],.box (iC d),.box (iC s),.roC [.tree (.int .i64 (n:Int)),.tree (.slice (A0f es)),.tree (.int .i64 (q:Int)),.ref 2 1 0 n n,.ref 3 1 0 n n,.tree (.int .i64 0)]]) rfl rfl (B2M _ _ rfl _ rfl) ?_;refine AReg.rest (fun K hK=> ?_);refine zM Qv5 Qv5 (zc hMx Qv5) Qv5 Qv5 (ed fun hp hpc=>?_);refine AWp.loopS (α:=Nat) 95 (fun k=>[(0,.c (.ptr 4 0)),(2,.c (.slice (A0l far) .none)),(3,.c (.bfn 159 [.ptr 4 0])),(4,.c (.int .i64 (k:Int)))]) (fun k=>[.box [.int .i64 (n:Int),.slice (A0f es) .none],.ro [.int .i64 (n:Int),.slice (A0f es)],.box (iC d),.box (iC s),.roC [.tree (.int .i64 (n:Int)),.tree (.slice (A0f es)),.tree (.int .i64 (q:Int)),.ref 2 1 0 n n,.ref 3 1 0 n n,.tree (.int .i64 0)]]) (fun k=>k≤n-1) (fun k=>k) (k9) (hk:=Weak.headL 5 95 [0,2,3,4] (zWs (zc @A0V (zc @A0O @A0L)))) (h0:=?_) (round:=fun k hI=>?_)
 ·exact hKn
 ·have hkn:k≤n-1:=hI;clear hI hDi hMx;cases k with
  | zero=>
   refine zR Qv5 Qv5 Qv5 ?_;simp [A4Q,A2f,A0o,A2e,Tryz.results117]
  | succ k=>
   have hk0:(0:Int)<((k+1:Nat):Int):=by omega
   refine zR (zc @hk0 (zc @A3X (zc @XX Qv5))) Qv5 Qv5 ?_;rw [<-B7W far ((k+1:Nat):Int) n];refine AWp.loopS (α:=Nat) 95 (fun i=>[(0,.c (.ptr 4 0)),(2,.c (.slice (A0l far) .none)),(3,.c (.bfn 159 [.ptr 4 0])),(4,.c (.int .i64 ((k+1:Nat):Int))),(5,.c (.ptr 6 0)),(35,.c (.int .i64 (n:Int))),(36,.c (.int .i64 (i:Int)))]) (fun i=>[.box [.int .i64 (n:Int),.slice (A0f es) .none],.ro [.int .i64 (n:Int),.slice (A0f es)],.box (iC d),.box (iC s),.roC [.tree (.int .i64 (n:Int)),.tree (.slice (A0f es)),.tree (.int .i64 (q:Int)),.ref 2 1 0 n n,.ref 3 1 0 n n,.tree (.int .i64 0)],.box (bC (A6X far ((k+1:Nat):Int) n i)),.box [.ref 5 1 0 n n]]) (fun i=>i≤n) (fun i=>n-i) (0) (hk:=Weak.headL 7 95 [0,2,3,4,5,35,36] (zWs (zc @A0V (zc @A0O @A0L)))) (h0:=?_) (round:=fun i hI=>?_)
   ·exact Xj _
   ·have hi:i≤n:=hI;clear hI;by_cases hil:i<n
    ·have hiI:(i:Int)<(n:Int):=by omega
     have hg:=A0t (A1t (d:=far) (i:=i) (by omega));have hns:=C12 far ((k+1:Nat):Int) hil;have hnl:=A9N far ((k+1:Nat):Int) n i;have hbs:=A68 (A6X far ((k+1:Nat):Int) n i) i (decide (far.getD i 0<((k+1:Nat):Int)));rw [hns] at hbs;clear hd0 hq0 hfb hdb;generalize hn1:A6X far ((k+1:Nat):Int) n (i+1)=N1 at*;generalize A6X far ((k+1:Nat):Int) n i=N0 at*;generalize far.getD i 0=fi at*;generalize ((k+1:Nat):Int)=kk at*;refine zR (zc @hiI (zc @hg (zc @hbs (zc @A1Z (zc @hnl (zc @A0e (zc @hfl (zc @XX Qv5)))))))) Qv5 Qv5 ?_;refine ⟨i+1,Weak.headF 7 95 [0,2,3,4,5,35,36] (zc @hn1 Qv5) (zWs (zc @A0V (zc @A0O @A0L))),?_,?_⟩
     ·exact hil
     ·omega
    ·have hnl: ¬(i:Int)<(n:Int):=by omega
     have ei:i=n:=by omega
     rw [ei];rw [ei] at hnl;have hnk:=A9N far ((k+1:Nat):Int) n n;generalize A6X far ((k+1:Nat):Int) n n=NK at*;refine zR (zc @hnl (zc @A0e (zc @hfl Qv5))) Qv5 Qv5 ?_;refine AWp.loopS (α:=Nat) 95 (fun v=>[(0,.c (.ptr 4 0)),(2,.c (.slice (A0l far) .none)),(3,.c (.bfn 159 [.ptr 4 0])),(4,.c (.int .i64 ((k+1:Nat):Int))),(5,.c (.ptr 6 0)),(7,.c (.int .i64 0)),(49,.c (.slice (A0l far) .none)),(50,.c (.int .i64 (n:Int))),(51,.c (.int .i64 (v:Int)))]) (fun v=>[.box [.int .i64 (n:Int),.slice (A0f es) .none],.ro [.int .i64 (n:Int),.slice (A0f es)],.box (iC d),.box (iC s),.roC [.tree (.int .i64 (n:Int)),.tree (.slice (A0f es)),.tree (.int .i64 (q:Int)),.ref 2 1 0 n n,.ref 3 1 0 n n,.tree (.int .i64 0)],.box (bC NK),.box [.ref 5 1 0 n n]]) (fun v=>v≤n) (fun v=>n-v) (0) (hk:=Weak.headL 7 95 [0,2,3,4,5,7,49,50,51] (zWs (zc @A0V (zc @A0O @A0L)))) (h0:=?_) (round:=fun v hI=>?_)
     ·exact Xj _
     ·have hv:v≤n:=hI;clear hI;by_cases hvl:v<n
      ·have hvI:(v:Int)<(n:Int):=by omega
       have hg:=A0t (A1t (d:=far) (i:=v) (by omega));have hds:=A5K (A1t (d:=d) (i:=v) (by omega));have hdv:=hd0 v hvl;have hfz:v=q->far.getD v 0=0:=fun e=>by rw [e]; exact hq0
       have hbv:=hdb v;clear hd0 hq0 hfb hdb;by_cases hfk:far.getD v 0=((k+1:Nat):Int)
       ·have hvq:v≠q:=fun e=>by have:=hfz e; omega
        have hdn: ¬d.getD v 0<0:=by have:=hdv hvq; omega
        clear hdv hfz hvq;generalize ((k+1:Nat):Int)=kk at*;generalize far.getD v 0=fv at*;generalize d.getD v 0=dv at*;refine zR (zc @hvI (zc @hg (zc @hds (zc @hfk (zc @hdn (zc @A12 (zc @hd (zc @A0e (zc @hfl (zc @XX Qv5)))))))))) Qv5 Qv5 ?_;refine ⟨v+1,Weak.headN 7 95 [0,2,3,4,5,7,49,50,51] (zWs (zc @A0V (zc @A0O @A0L))),?_,?_⟩
        ·exact hvl
        ·omega
       ·clear hdv hfz;generalize ((k+1:Nat):Int)=kk at*;generalize far.getD v 0=fv at*;generalize d.getD v 0=dv at*;refine zR (zc @hvI (zc @hg (zc @hds (zc @hfk (zc @A12 (zc @hd (zc @A0e (zc @hfl (zc @XX Qv5))))))))) Qv5 Qv5 ?_;refine ⟨v+1,Weak.headN 7 95 [0,2,3,4,5,7,49,50,51] (zWs (zc @A0V (zc @A0O @A0L))),?_,?_⟩
        ·exact hvl
        ·omega
      ·have hnl2: ¬(v:Int)<(n:Int):=by omega
       have hk1:((k+1:Nat):Int)-1=(k:Int):=by omega
       have hrk:(-9223372036854775808:Int)≤(k:Int)∧(k:Int)≤9223372036854775807:=by omega
       refine zM Qv5 (zc @hnl2 (zc @hk1 Qv5)) Qv5 Qv5 Qv5 (ed fun hp hpc=>?_);refine ⟨k,Weak.headN 5 95 [0,2,3,4] (zWs (zc @A0V (zc @A0O @A0L))),?_,?_⟩
       ·omega
       ·omega
def B8c (n q:Nat) (es:List E) (d s:List Int) (h1:1≤n) (h12:n≤12) (hq:q<n) (hd:d.length=n) (hs:s.length=n) (hl:es.length≤40) (hm: ∀e,e∈es->(0≤e.a∧e.a<n)∧(0≤e.b∧e.b<n)∧0≤e.m∧e.m≤50) (B:List Bool) (hB:BEnd es d n (A9F n q) B) (hBl:B.length=n) (hno:A6P B n=false):
  ACallH Tryz.prog 118 [.box [.int .i64 (n:Int),.slice (A0f es) .none],.ro [.int .i64 (n:Int),.slice (A0f es)],.box (iC d),.box (iC s),.roC [.tree (.int .i64 (n:Int)),.tree (.slice (A0f es)),.tree (.int .i64 (q:Int)),.ref 2 1 0 n n,.ref 3 1 0 n n,.tree (.int .i64 0)]] [.c (.ptr 4 0)] [.box [.int .i64 (n:Int),.slice (A0f es) .none],.ro [.int .i64 (n:Int),.slice (A0f es)],.box (iC d),.box (iC s),.roC [.tree (.int .i64 (n:Int)),.tree (.slice (A0f es)),.tree (.int .i64 (q:Int)),.ref 2 1 0 n n,.ref 3 1 0 n n,.tree (.int .i64 0)]] (.tup []):=by
 have hU:=B7X n q es d s h1 h12 hq hd hs hl hm _ hB hBl;rw [hno] at hU;have hT:ACallH Tryz.prog 118 [.box [.int .i64 (n:Int),.slice (A0f es) .none],.ro [.int .i64 (n:Int),.slice (A0f es)],.box (iC d),.box (iC s),.roC [.tree (.int .i64 (n:Int)),.tree (.slice (A0f es)),.tree (.int .i64 (q:Int)),.ref 2 1 0 n n,.ref 3 1 0 n n,.tree (.int .i64 0)]] [.c (.ptr 4 0)] ([.box [.int .i64 (n:Int),.slice (A0f es) .none],.ro [.int .i64 (n:Int),.slice (A0f es)],.box (iC d),.box (iC s),.roC [.tree (.int .i64 (n:Int)),.tree (.slice (A0f es)),.tree (.int .i64 (q:Int)),.ref 2 1 0 n n,.ref 3 1 0 n n,.tree (.int .i64 0)]]++[.box [.slice (A46 (B1j n B)) .none]]) (.tup []):=by
  simp only [List.cons_append,List.nil_append];refine ACallH.of_body Tryz.func118 rfl (by kernel_rfl) ?_;simp only [entry,Tryz.ntmps118,List.length_cons,List.length_nil,Nat.reduceAdd,Nat.reduceSub,List.replicate_succ,List.replicate_zero,List.cons_append,List.nil_append];refine zR Qv5 Qv5 Qv5 ?_;refine AWp.loopS (α:=Unit) 58 (fun w=>[(0,.c (.ptr 4 0))]) (fun w=>[.box [.int .i64 (n:Int),.slice (A0f es) .none],.ro [.int .i64 (n:Int),.slice (A0f es)],.box (iC d),.box (iC s),.roC [.tree (.int .i64 (n:Int)),.tree (.slice (A0f es)),.tree (.int .i64 (q:Int)),.ref 2 1 0 n n,.ref 3 1 0 n n,.tree (.int .i64 0)]]) (fun w=>True) (fun w=>0) (()) (hk:=Weak.headL 5 58 [0] (zWs (zc @A0V (zc @A0O @A0L)))) (h0:=?_) (round:=fun w hI=>?_)
  ·trivial
  ·
   refine zJ Qv5 Qv5 Qv5 (zc hU Qv5) Qv5 ?_;simp [A4Q,A2f,A0o,A2e,Tryz.results118]
 exact hT.trim (Qk _) (show B6P _ (.tup []) from fun x hx=>by cases hx) (B37 n q es _ _ (m:=5) (by decide))
def B8d (n q:Nat) (es:List E) (d:List Int) (h1:1≤n) (h12:n≤12) (hq:q<n) (hd:d.length=n) (hl:es.length≤40) (hE:EsOk n es) (hc:checkG ⟨(n:Int),es⟩=0) (hcc:connB ⟨(n:Int),es⟩=true) (hdb:bndL 1048576 d) (hd0: ∀v,v<n->v≠q->0≤d.getD v 0) (B:List Bool) (hB:BEnd es d n (A9F n q) B) (hBl:B.length=n) (hno:A6P B n=false):
  ACall Tryz.prog 73 [tG ⟨(n:Int),es⟩,A0j q,A0k d] (.tup [A0k d,A0k (A2J (List.replicate n 0) 0 n),A0j 0]):=by
 have hm:=hE.rng;obtain ⟨far,pB,hDE,hf⟩:=C8x (es:=es) (n:=n) (q:=q) (fun v x hx=>by have:=C6Z hE hx; omega) _ (A8f n q,[q],0) (Qk _) (B6w hq);have hz: ∀u,(List.replicate n (0:Int)).getD u 0=0:=fun u=>by
  rw [Qz,Qq2]; split<;>rfl
 have hzl:(List.replicate n (0:Int)).length=n:=by simp
 have hLd:=C3H n q es d (List.replicate n 0) h1 h12 hq hd hzl hl hm far pB hDE hf hd0 hdb;have hSt:=B8c n q es d (List.replicate n 0) h1 h12 hq hd hzl hl hm B hB hBl hno;have hSl:(A2J (List.replicate n (0:Int)) 0 n).length=n:=by rw [A5m]; exact hzl
 have hSb:bndL 1048576 (A2J (List.replicate n (0:Int)) 0 n):=fun v=>by
  by_cases hv:v<n
  ·rw [A6Z _ _ v n (by omega),if_pos hv,hz]; omega
  ·rw [Qz,Xq (by omega)];simp
 have hzb:bndL (2^40) (List.replicate n (0:Int)):=fun v=>by rw [hz]; omega
 have hRs:=C13 n q es d (List.replicate n 0) h1 h12 hq hd hzl hdb hzb (by rw [hz]; exact hSb);rw [hz] at hRs;have hG:=C14 n q es d hq hd h1 h12 (by omega) hc hcc hdb;have hBg:=C3B n q es d h1 h12 hd;generalize A2J (List.replicate n (0:Int)) 0 n=S at*;generalize List.replicate n (0:Int)=Z at*;have hbi: ∀(H:List Blk) (k:IntKind) (x:Int),A0d H (.int k x)=some (.int k x):=fun _ _ _=>rfl;have hr2:A0d [.box [.int .i64 (n:Int),.slice (A0f es) .none],.ro [.int .i64 (n:Int),.slice (A0f es)],.box (iC d),.box (iC S),.roC [.tree (.int .i64 (n:Int)),.tree (.slice (A0f es)),.tree (.int .i64 (q:Int)),.ref 2 1 0 n n,.ref 3 1 0 n n,.tree (.int .i64 0)]] (.ref 2 1 0 n n)=some (.slice (A0l d)):=B0T hd rfl;have hr3:A0d [.box [.int .i64 (n:Int),.slice (A0f es) .none],.ro [.int .i64 (n:Int),.slice (A0f es)],.box (iC d),.box (iC S),.roC [.tree (.int .i64 (n:Int)),.tree (.slice (A0f es)),.tree (.int .i64 (q:Int)),.ref 2 1 0 n n,.ref 3 1 0 n n,.tree (.int .i64 0)]] (.ref 3 1 0 n n)=some (.slice (A0l S)):=B0T hSl rfl;clear hDE hf hE hSb hz hd0 hB hno hzb hdb;simp only [tG,ofT,A3v,A0v,XY,ZQ] at hBg;refine ACall.of_body Tryz.func73 rfl (by kernel_rfl) ?_;simp only [entry,Tryz.ntmps73,tG,A0j,A0k];refine zU ?_;refine zJ (stop 5) Qv5 (zc hG Qv5) (zc hBg Qv5) Qv5 ?_;refine AWp.freezeC (ks:=[.tree (.int .i64 (n:Int)),.tree (.slice (A0f es)),.tree (.int .i64 (q:Int)),.ref 2 1 0 n n,.ref 3 1 0 n n,.tree (.int .i64 0)]) 4 rfl rfl ?_;simp only [List.set_cons_succ,List.set_cons_zero];refine zJ Qv5 Qv5 Qv5 (zc hLd (zc hSt (zc hRs Qv5))) Qv5 ?_;simp [A0s,A0r,Tryz.results73,A0o,A0p,toT,hr2,hr3,hbi,A0k,A0j]
end Go.Proofs.YtdbdfkohpjefjaaGreat
