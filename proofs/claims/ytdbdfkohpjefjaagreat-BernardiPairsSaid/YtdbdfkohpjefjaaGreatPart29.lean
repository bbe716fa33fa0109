/- A part of the proof. -/
import Derived.Test.YtdbdfkohpjefjaaGreatPart26
set_option linter.all false
set_option maxHeartbeats 4000000
set_option maxRecDepth 100000
namespace Go.Proofs.YtdbdfkohpjefjaaGreat
open Go.Sp
def jnS (es:List E) (A:List Bool) (v:Nat):Int:=joinL (fun u=> !A.getD u.toNat false) (lnkL es v)
def minS (es:List E) (d:List Int) (A:List Bool):Nat->Int
 | 0=>0
 | v+1=>if A.getD v false=true∧0<jnS es A v then (if minS es d A v=0∨(d.getD v 0).tdiv (jnS es A v)<minS es d A v then (d.getD v 0).tdiv (jnS es A v) else minS es d A v) else minS es d A v
def B0W (n:Nat) (B:List Bool):List Bool:=B2b B n n
def C50 (n:Nat) (es:List E) (B:List Bool) (w:List Int×List Int):List Int×List Int:=
 (C4W es (minS es w.1 (B0W n B) n) (B0W n B) n w.1,C2M (minS es w.1 (B0W n B) n) (B0W n B) n w.2)
inductive SEnd (es:List E) (n q:Nat):List Int×List Int->List Int×List Int->List Bool->Prop where
 | stop {w:List Int×List Int} {B:List Bool}:BEnd es w.1 n (A98 n q) B->B.length=n->A6L B n=false->SEnd es n q w w B
 | go {w W:List Int×List Int} {B Z:List Bool}:BEnd es w.1 n (A98 n q) B->B.length=n->A6L B n=true->C7y es w.1 q B->(∀v,v<n->C5I es w.1 B v=false)->SEnd es n q (C50 n es B w) W Z->SEnd es n q w W Z
section
variable {n:Nat} {es:List E}
structure SInv (n:Nat) (es:List E) (q:Nat) (d0:List Int) (X Y sq:Int) (w:List Int×List Int):Prop where
 dl:w.1.length=n
 sl:w.2.length=n
 led:Led n es d0 w.1 w.2
 don: ∀v,v<n->v≠q->0≤w.1.getD v 0
 dq: -X≤w.1.getD q 0
 low: ∀v,v<n-> -Y≤w.2.getD v 0
 sq:w.2.getD q 0=sq
end
def A2l (r:R) (t:List Int):List Int:=B6d r t (2*(endsL r.es).length)
def A2S (r:R) (t:List Int):(A2l r t).length=r.n.toNat:=B1P _ _ _
def A7P (r:R) (t:List Int) (hs:RSm r) (htl:t.length<2^40):ACall Tryz.prog 14 [tR r,A0q t] (.tup [A0q (if B39 r t≠0 then [] else A2l r t),A0n (B39 r t)]):=by
 have hg:=A9A r t hs htl;by_cases h0:B39 r t=0
 ·rw [if_neg (by omega),h0];rw [h0] at hg;have hw:=A2C r t hs (B1I h0).1 htl;change ACall _ _ _ (A0q (A2l r t)) at hw;generalize A2l r t=T at*;obtain ⟨n,es,ar⟩:=r;refine ACall.of_body Tryz.func14 rfl (by kernel_rfl) ?_;simp only [entry,Tryz.ntmps14,tR];refine zU ?_;refine zR Qv6 (zc hg (zc hw Qv6)) Qv6 ?_;simp [A00,A0z,Blk.cells,ty,Tryz.results14,A0v,A0w,toT,A0d,A0b,A0c,A0a,A0n,A0q]
 ·rw [if_pos h0];generalize B39 r t=e at*;obtain ⟨n,es,ar⟩:=r;refine ACall.of_body Tryz.func14 rfl (by kernel_rfl) ?_;simp only [entry,Tryz.ntmps14,tR];refine zU ?_;refine zR (zc @h0 Qv6) (zc hg Qv6) Qv6 ?_;simp [A00,A0z,Blk.cells,ty,Tryz.results14,A0v,A0w,toT,A0d,A0b,A0c,A0a,A0n,A0q,A0p]
def C3e (r:R) (q:List Int->Bool) (Ts:List (List Int)):Option (List Int):=Ts.find? fun t=>q (A2l r t)
def B77 (o:Option (List Int)):List Int:=o.getD []
def B78 (o:Option (List Int)):Int:=if o.isSome then 0 else 6
def C0T (r:R) (hs:RSm r) (Ts:List (List Int)) (hl:Ts.length<2^30) (hT: ∀t,t∈Ts->RTree r t∧t.length<2^40) (f:Nat) (a:List Tree) (q:List Int->Bool)
  (hq: ∀t,t∈Ts->ACall Tryz.prog f [A0q (A2l r t),.t (.rptr a)] (A0x (q (A2l r t)))):
  ACall Tryz.prog 65 [tR r,A0S Ts,.t (.fn f [.rptr a])] (.tup [A0q (B77 (C3e r q Ts)),A0n (B78 (C3e r q Ts))]):=by
 have hD:=fun t (ht:t∈Ts)=>A2C r t hs (hT t ht).1 (hT t ht).2;have hdef: ∀t,B6d r t (2*(endsL r.es).length)=A2l r t:=fun _=>rfl;simp only [hdef] at hD;unfold C3e;generalize A2l r=dF at*;clear hT hs hdef;obtain ⟨n,es,ar⟩:=r;refine ACall.of_body Tryz.func65 rfl (by kernel_rfl) ?_;simp only [entry,Tryz.ntmps65,tR,A0S];refine zU ?_;refine zR (zc @A0o Qv6) Qv6 Qv6 ?_;refine AWp.loopS (α:=Nat) 23 (fun i=>[(2,.c (.fn f [.tree (.rptr a)])),(3,.c (.ptr 0 0)),(10,.c (.slice (A0u Ts) .none)),(11,.c (.int .i64 (Ts.length:Int))),(12,.c (.int .i64 (i:Int)))]) (fun i=>[.box [.int .i64 n,.slice (A0f es) .none,.slice (A0u ar) .none]]) (fun i=>i≤Ts.length∧(Ts.take i).find? (fun t=>q (dF t))=none) (fun i=>Ts.length-i) (0) (hk:=Weak.headL 1 23 [2,3,10,11,12] zW) (h0:=?_) (round:=fun i hI=>?_)
 ·exact ⟨Xw _,rfl⟩
 ·obtain ⟨hi,hI2⟩:=hI;by_cases hlt:i<Ts.length
  ·have hltI:(i:Int)<(Ts.length:Int):=by omega
   have e0:=Qq hlt;have e1:=A0U e0;have hm:=Xk hlt;have d1:=hD _ hm;have d2:=hq _ hm;have t1:Ts.take (i+1)=Ts.take i++[Ts[i]]:=XZ hlt;have t2:Ts=Ts.take i++Ts[i]::Ts.drop (i+1):=by rw [List.getElem_cons_drop,Jv]
   generalize Ts[i]=x at*;by_cases hx:q (dF x)=true
   ·rw [hx] at d2;have hf:Ts.find? (fun t=>q (dF t))=some x:=by
     rw [t2,List.find?_append,hI2,List.find?_cons,hx]; rfl
    rw [hf];refine zR (zc @hltI (zc @A0o (zc @e1 Qv6))) (zc d1 (zc d2 Qv6)) Qv6 ?_;simp [A00,A0z,Blk.cells,ty,Tryz.results65,A0v,A0w,toT,A0d,A0b,A0c,A0a,A0n,A0q,B77,B78]
   ·have hx:q (dF x)=false:=by simpa using hx
    rw [hx] at d2;refine zR (zc @hltI (zc @A0o (zc @e1 Qv6))) (zc d1 (zc d2 Qv6)) Qv6 ?_;refine ⟨i+1,Weak.headN 1 23 [2,3,10,11,12] zW,?_,?_⟩
    ·exact ⟨hlt,by rw [t1,List.find?_append,hI2,List.find?_cons,hx]; rfl⟩
    ·omega
  ·have ei:i=Ts.length:=by omega
   rw [ei,Zy] at hI2;rw [hI2];have hnl: ¬((i:Int)<(Ts.length:Int)):=by omega
   refine zR (zc @hnl (zc @A0o Qv6)) Qv6 Qv6 ?_;simp [A00,A0z,Blk.cells,ty,Tryz.results65,A0v,A0w,toT,A0d,A0b,A0c,A0a,A0n,A0q,A0p,B77,B78]
def C0U (r:R) (hs:RSm r) (Ts:List (List Int)) (hl:Ts.length<2^30) (hT: ∀t,t∈Ts->RTree r t∧t.length<2^40) (f:Nat) (a b:List Tree) (q:List Int->Bool)
  (hq: ∀t,t∈Ts->ACall Tryz.prog f [A0q (A2l r t),.t (.rptr a),.t (.rptr b)] (A0x (q (A2l r t)))):
  ACall Tryz.prog 65 [tR r,A0S Ts,.t (.fn f [.rptr a,.rptr b])] (.tup [A0q (B77 (C3e r q Ts)),A0n (B78 (C3e r q Ts))]):=by
 have hD:=fun t (ht:t∈Ts)=>A2C r t hs (hT t ht).1 (hT t ht).2;have hdef: ∀t,B6d r t (2*(endsL r.es).length)=A2l r t:=fun _=>rfl;simp only [hdef] at hD;unfold C3e;generalize A2l r=dF at*;clear hT hs hdef;obtain ⟨n,es,ar⟩:=r;refine ACall.of_body Tryz.func65 rfl (by kernel_rfl) ?_;simp only [entry,Tryz.ntmps65,tR,A0S];refine zU ?_;refine zR (zc @A0o Qv6) Qv6 Qv6 ?_;refine AWp.loopS (α:=Nat) 23 (fun i=>[(2,.c (.fn f [.tree (.rptr a),.tree (.rptr b)])),(3,.c (.ptr 0 0)),(10,.c (.slice (A0u Ts) .none)),(11,.c (.int .i64 (Ts.length:Int))),(12,.c (.int .i64 (i:Int)))]) (fun i=>[.box [.int .i64 n,.slice (A0f es) .none,.slice (A0u ar) .none]]) (fun i=>i≤Ts.length∧(Ts.take i).find? (fun t=>q (dF t))=none) (fun i=>Ts.length-i) (0) (hk:=Weak.headL 1 23 [2,3,10,11,12] zW) (h0:=?_) (round:=fun i hI=>?_)
 ·exact ⟨Xw _,rfl⟩
 ·obtain ⟨hi,hI2⟩:=hI;by_cases hlt:i<Ts.length
  ·have hltI:(i:Int)<(Ts.length:Int):=by omega
   have e0:=Qq hlt;have e1:=A0U e0;have hm:=Xk hlt;have d1:=hD _ hm;have d2:=hq _ hm;have t1:Ts.take (i+1)=Ts.take i++[Ts[i]]:=XZ hlt;have t2:Ts=Ts.take i++Ts[i]::Ts.drop (i+1):=by rw [List.getElem_cons_drop,Jv]
   generalize Ts[i]=x at*;by_cases hx:q (dF x)=true
   ·rw [hx] at d2;have hf:Ts.find? (fun t=>q (dF t))=some x:=by
     rw [t2,List.find?_append,hI2,List.find?_cons,hx]; rfl
    rw [hf];refine zR (zc @hltI (zc @A0o (zc @e1 Qv6))) (zc d1 (zc d2 Qv6)) Qv6 ?_;simp [A00,A0z,Blk.cells,ty,Tryz.results65,A0v,A0w,toT,A0d,A0b,A0c,A0a,A0n,A0q,B77,B78]
   ·have hx:q (dF x)=false:=by simpa using hx
    rw [hx] at d2;refine zR (zc @hltI (zc @A0o (zc @e1 Qv6))) (zc d1 (zc d2 Qv6)) Qv6 ?_;refine ⟨i+1,Weak.headN 1 23 [2,3,10,11,12] zW,?_,?_⟩
    ·exact ⟨hlt,by rw [t1,List.find?_append,hI2,List.find?_cons,hx]; rfl⟩
    ·omega
  ·have ei:i=Ts.length:=by omega
   rw [ei,Zy] at hI2;rw [hI2];have hnl: ¬((i:Int)<(Ts.length:Int)):=by omega
   refine zR (zc @hnl (zc @A0o Qv6)) Qv6 Qv6 ?_;simp [A00,A0z,Blk.cells,ty,Tryz.results65,A0v,A0w,toT,A0d,A0b,A0c,A0a,A0n,A0q,A0p,B77,B78]
def B79 (n q:Nat) (es:List E) (d s:List Int) (h1:1≤n) (h12:n≤12) (hq:q<n) (hd:d.length=n) (hs:s.length=n) (hl:es.length≤40) (hm: ∀e,e∈es->(0≤e.a∧e.a<n)∧(0≤e.b∧e.b<n)∧0≤e.m∧e.m≤50) (B:List Bool) (hB:BEnd es d n (A98 n q) B) (hBl:B.length=n):
  ACallH Tryz.prog 163 [.box [.int .i64 (n:Int),.slice (A0f es) .none],.ro [.int .i64 (n:Int),.slice (A0f es)],.box (iC d),.box (iC s),.roC [.tree (.int .i64 (n:Int)),.tree (.slice (A0f es)),.tree (.int .i64 (q:Int)),.ref 2 1 0 n n,.ref 3 1 0 n n,.tree (.int .i64 0)]] [.c (.ptr 4 0)] [.box [.int .i64 (n:Int),.slice (A0f es) .none],.ro [.int .i64 (n:Int),.slice (A0f es)],.box (iC d),.box (iC s),.roC [.tree (.int .i64 (n:Int)),.tree (.slice (A0f es)),.tree (.int .i64 (q:Int)),.ref 2 1 0 n n,.ref 3 1 0 n n,.tree (.int .i64 0)]] (.tup [.c (.slice (A44 (B0W n B)) .none),.c (.bool (A6L B n))]):=by
 obtain ⟨X,hX⟩:=B4H n q es d s h1 h12 hq hd hs hl hm B hB hBl;refine hX.trim (QQ _) (fun x hx=> ?_) (B3s n q es d s (m:=5) (by decide));simp only [Qw,Qv,or_false] at hx;rcases hx with rfl | rfl<;>exact Qv4
def B0X (k:Int) (h: -1048576≤k∧k≤1048576):ACall Tryz.prog 107 [A0n k] (A0x true):=by
 have h1:k≥ -1048576:=h.1;have h2:k≤1048576:=h.2;refine ACall.of_body Tryz.func107 rfl (by kernel_rfl) ?_;simp only [entry,Tryz.ntmps107,A0n];refine zU ?_;refine zR (zc @h1 (zc @h2 Qv6)) Qv6 Qv6 ?_;simp [A00,A0z,Blk.cells,ty,Tryz.results107,A0v,A0w,toT,A0d,A0b,A0c,A0a,A0x]
def B32 (n:Int) (h:1≤n∧n≤12):ACall Tryz.prog 106 [A0n n] (A0n 0):=by
 have h1: ¬(n<1):=by omega
 have h2: ¬(n>12):=by omega
 refine ACall.of_body Tryz.func106 rfl (by kernel_rfl) ?_;simp only [entry,Tryz.ntmps106,A0n];refine zU ?_;refine zR (zc @h1 (zc @h2 Qv6)) Qv6 Qv6 ?_;simp [A00,A0z,Blk.cells,ty,Tryz.results106,A0v,A0w,toT,A0d,A0b,A0c,A0a,A0n]
def A6S (d:List Int) (n:Nat) (h1:1≤n) (h12:n≤12) (hd:d.length=n) (hb:bndL 1048576 d):ACall Tryz.prog 63 [A0q d,A0n n] (A0n 0):=by
 have hV:=B32 n (by omega);refine ACall.of_body Tryz.func63 rfl (by kernel_rfl) ?_;simp only [entry,Tryz.ntmps63,A0q,A0n];refine zU ?_;refine zJ (stop 7) (zc @A0e (zc @hd Qv6)) (zc hV Qv6) Qv6 Qv6 ?_;refine AWp.loopS (α:=Nat) 27 (fun i=>[(17,.c (.slice (A0p d) .none)),(18,.c (.int .i64 (n:Int))),(19,.c (.int .i64 (i:Int)))]) (fun i=>[]) (fun i=>i≤n) (fun i=>n-i) (0) (hk:=Weak.headL 0 27 [17,18,19] (zV3 @A1k @A0N @A0H)) (h0:=?_) (round:=fun i hI=>?_)
 ·exact Xw _
 ·have hi:i≤n:=hI;clear hI;by_cases hil:i<n
  ·have hiI:(i:Int)<(n:Int):=by omega
   have hg:=A0y (A13 (d:=d) (i:=i) (by omega));have hw:=B0X (d.getD i 0) (hb i);generalize d.getD i 0=x at*;refine zR (zc @hiI (zc @hg (zc @A0e (zc @hd (zc @XX Qv6))))) (zc hw Qv6) Qv6 ?_;refine ⟨i+1,Weak.headN 0 27 [17,18,19] (zV3 @A1k @A0N @A0H),?_,?_⟩
   ·exact hil
   ·omega
  ·have hnl: ¬(i:Int)<(n:Int):=by omega
   refine zR (zc @hnl Qv6) Qv6 Qv6 ?_;simp [A00,A0z,Blk.cells,ty,Tryz.results63,A0v,A0w,toT,A0d,A0b,A0c,A0a,A0n]
def A2I (s:List Int) (c:Int):Nat->List Int
 | 0=>s
 | i+1=>(A2I s c i).set i ((A2I s c i).getD i 0-c)
def A5i (s:List Int) (c:Int): ∀i,(A2I s c i).length=s.length
 | 0=>rfl
 | i+1=>by unfold A2I; rw [Yw]; exact A5i s c i
def A6T (s:List Int) (c:Int) (v:Nat): ∀i,i≤s.length->(A2I s c i).getD v 0=if v<i then s.getD v 0-c else s.getD v 0
 | 0,_=>by rw [if_neg (by omega)]; rfl
 | i+1,hi=>by
  unfold A2I;rw [A5g _ _ _ _ (by rw [A5i]; omega),A6T s c v i (by omega),A6T s c i i (by omega),if_neg (Nat.lt_irrefl i)];by_cases e:v=i
  ·subst e; rw [if_pos rfl,if_pos (by omega)]
  ·rw [if_neg e];by_cases h:v<i
   ·rw [if_pos h,if_pos (by omega)]
   ·rw [if_neg h,if_neg (by omega)]
def C0V (n q:Nat) (es:List E) (d s:List Int) (h1:1≤n) (h12:n≤12) (hq:q<n) (hd:d.length=n) (hs:s.length=n) (hdb:bndL 1048576 d) (hsb:bndL (2^40) s) (hsc:bndL 1048576 (A2I s (s.getD q 0) n)):
  ACallH Tryz.prog 119 [.box [.int .i64 (n:Int),.slice (A0f es) .none],.ro [.int .i64 (n:Int),.slice (A0f es)],.box (iC d),.box (iC s),.roC [.tree (.int .i64 (n:Int)),.tree (.slice (A0f es)),.tree (.int .i64 (q:Int)),.ref 2 1 0 n n,.ref 3 1 0 n n,.tree (.int .i64 0)]] [.c (.ptr 4 0)] [.box [.int .i64 (n:Int),.slice (A0f es) .none],.ro [.int .i64 (n:Int),.slice (A0f es)],.box (iC d),.box (iC (A2I s (s.getD q 0) n)),.roC [.tree (.int .i64 (n:Int)),.tree (.slice (A0f es)),.tree (.int .i64 (q:Int)),.ref 2 1 0 n n,.ref 3 1 0 n n,.tree (.int .i64 0)]] (.tup [.c (.ref 2 1 0 n n),.c (.ref 3 1 0 n n),.c (.int .i64 0)]):=by
 have hqI:(q:Int)<(n:Int):=by omega
 have hgq:=A64 (A13 (d:=s) (i:=q) (by omega));have hqb:=hsb q;have hC1:=A6S d n h1 h12 hd hdb;have hC2:=A6S (A2I s (s.getD q 0) n) n h1 h12 (by rw [A5i]; exact hs) hsc;clear hsc hdb;have hsl: ∀i,i≤n-> ∀v,(A2I s (s.getD q 0) i).getD v 0=if v<i then s.getD v 0-s.getD q 0 else s.getD v 0:=fun i hi v=>A6T s _ v i (by omega)
 have hnl:=fun i=>A5i s (s.getD q 0) i;rw [hs] at hnl;have hn0:A2I s (s.getD q 0) 0=s:=rfl;have hns: ∀i,(A2I s (s.getD q 0) i).set i ((A2I s (s.getD q 0) i).getD i 0-s.getD q 0)=A2I s (s.getD q 0) (i+1):=fun i=>rfl;generalize s.getD q 0=c at*;refine ACallH.of_body Tryz.func119 rfl (by kernel_rfl) ?_;simp only [entry,Tryz.ntmps119,List.length_cons,List.length_nil,Nat.reduceAdd,Nat.reduceSub,List.replicate_succ,List.replicate_zero,List.cons_append,List.nil_append];refine zJ (stop 5) (zc @hgq (zc @hqI (zc @A1N (zc @hs (zc @XX Qv6))))) Qv6 Qv6 Qv6 ?_;refine AWp.loopS (α:=Nat) 77 (fun i=>[(0,.c (.ptr 4 0)),(5,.c (.int .i64 c)),(30,.c (.int .i64 (n:Int))),(31,.c (.int .i64 (i:Int)))]) (fun i=>[.box [.int .i64 (n:Int),.slice (A0f es) .none],.ro [.int .i64 (n:Int),.slice (A0f es)],.box (iC d),.box (iC (A2I s c i)),.roC [.tree (.int .i64 (n:Int)),.tree (.slice (A0f es)),.tree (.int .i64 (q:Int)),.ref 2 1 0 n n,.ref 3 1 0 n n,.tree (.int .i64 0)]]) (fun i=>i≤n) (fun i=>n-i) (0) (hk:=Weak.headL 5 77 [0,5,30,31] (zV3 @A1k @A0N @A0H)) (h0:=?_) (round:=fun i hI=>?_)
 ·exact Xw _
 ·have hi:i≤n:=hI;clear hI;by_cases hil:i<n
  ·have hiI:(i:Int)<(n:Int):=by omega
   have hg:=A64 (A13 (d:=A2I s c i) (i:=i) (by rw [hnl]; exact hil));have e1:=hsl i hi i;rw [if_neg (Nat.lt_irrefl i)] at e1;have hb:=hsb i;have hst:=B0z (A2I s c i) i ((A2I s c i).getD i 0-c);rw [hns] at hst;rw [e1] at hg hst;have hl:=hnl i;clear hC1 hC2 hsl hns hsb hnl e1;generalize hn1:A2I s c (i+1)=N1 at*;generalize hn2:A2I s c i=N0 at*;generalize s.getD i 0=x at*;refine zR (zc @hiI (zc @hg (zc @hst (zc @A1N (zc @hl (zc @XX Qv6)))))) Qv6 Qv6 ?_;refine ⟨i+1,Weak.headF 5 77 [0,5,30,31] (zc @hn1 Qv6) (zV3 @A1k @A0N @A0H),?_,?_⟩
   ·exact hil
   ·omega
  ·have hnl2: ¬(i:Int)<(n:Int):=by omega
   have ei:i=n:=by omega
   rw [ei];rw [ei] at hnl2;have hl:=hnl n;clear hsl hns hsb hnl;generalize A2I s c n=N at*;have hbi: ∀(H:List Blk) (k:IntKind) (x:Int),A0d H (.int k x)=some (.int k x):=fun _ _ _=>rfl;have hb2:A0d [.box [.int .i64 (n:Int),.slice (A0f es) .none],.ro [.int .i64 (n:Int),.slice (A0f es)],.box (iC d),.box (iC N),.roC [.tree (.int .i64 (n:Int)),.tree (.slice (A0f es)),.tree (.int .i64 (q:Int)),.ref 2 1 0 n n,.ref 3 1 0 n n,.tree (.int .i64 0)]] (.ref 2 1 0 n n)=some (.slice (A0p d)):=B0K hd rfl;have hb3:A0d [.box [.int .i64 (n:Int),.slice (A0f es) .none],.ro [.int .i64 (n:Int),.slice (A0f es)],.box (iC d),.box (iC N),.roC [.tree (.int .i64 (n:Int)),.tree (.slice (A0f es)),.tree (.int .i64 (q:Int)),.ref 2 1 0 n n,.ref 3 1 0 n n,.tree (.int .i64 0)]] (.ref 3 1 0 n n)=some (.slice (A0p N)):=B0K hl rfl;have hD1:ACallH Tryz.prog 63 [.box [.int .i64 (n:Int),.slice (A0f es) .none],.ro [.int .i64 (n:Int),.slice (A0f es)],.box (iC d),.box (iC N),.roC [.tree (.int .i64 (n:Int)),.tree (.slice (A0f es)),.tree (.int .i64 (q:Int)),.ref 2 1 0 n n,.ref 3 1 0 n n,.tree (.int .i64 0)]] [.c (.ref 2 1 0 n n),.c (.int .i64 (n:Int))] [.box [.int .i64 (n:Int),.slice (A0f es) .none],.ro [.int .i64 (n:Int),.slice (A0f es)],.box (iC d),.box (iC N),.roC [.tree (.int .i64 (n:Int)),.tree (.slice (A0f es)),.tree (.int .i64 (q:Int)),.ref 2 1 0 n n,.ref 3 1 0 n n,.tree (.int .i64 0)]] (.c (.int .i64 0)):=hC1.hb (by simp [toT,A0w,hb2,hbi,A0q,A0n]) rfl;have hD2:ACallH Tryz.prog 63 [.box [.int .i64 (n:Int),.slice (A0f es) .none],.ro [.int .i64 (n:Int),.slice (A0f es)],.box (iC d),.box (iC N),.roC [.tree (.int .i64 (n:Int)),.tree (.slice (A0f es)),.tree (.int .i64 (q:Int)),.ref 2 1 0 n n,.ref 3 1 0 n n,.tree (.int .i64 0)]] [.c (.ref 3 1 0 n n),.c (.int .i64 (n:Int))] [.box [.int .i64 (n:Int),.slice (A0f es) .none],.ro [.int .i64 (n:Int),.slice (A0f es)],.box (iC d),.box (iC N),.roC [.tree (.int .i64 (n:Int)),.tree (.slice (A0f es)),.tree (.int .i64 (q:Int)),.ref 2 1 0 n n,.ref 3 1 0 n n,.tree (.int .i64 0)]] (.c (.int .i64 0)):=hC2.hb (by simp [toT,A0w,hb3,hbi,A0q,A0n]) rfl;refine zJ Qv6 (zc @hnl2 (zc @A1N (zc @hl Qv6))) Qv6 (zc hD1 (zc hD2 Qv6)) Qv6 ?_;simp [A4O,A2c,A0v,A2b,Tryz.results119]
def B33 (l:List Int) (hne:l≠[]) (hl:l.length<2^30):ACallN Tryz.prog 157 [A0q l] 1 (A0p l):=by
 have hrn:A0p l≠[]:=by simpa [A0p] using hne
 have hrl:(A0p l).length=l.length:=A0e l;have hrk: ∀r,r∈A0p l->r.length=1:=fun r hr=>A1v hr;have hrf: ∀r,r∈A0p l->A1j r=true:=fun r hr=>by obtain ⟨x,_,rfl⟩:=QJ.1 hr; rfl
 refine ACallN.of_body Tryz.func157 rfl (by kernel_rfl) hrk (by decide) hrn hrf ?_;simp only [entry,Tryz.ntmps157,A0q,ofT,A3u,A02,XQ,ZX,List.length_cons,List.length_nil,Nat.reduceAdd,Nat.reduceSub,List.replicate_succ,List.replicate_zero,List.cons_append,List.nil_append];generalize A0p l=rows at*;refine zMc Qv6 (zc @hrl Qv6) Qv6 Qv6 (zc hrn (zc @hrk Qv6)) (ed fun hp hpc=>?_);simp [C5W,Tryz.results157]
def C3f (n q:Nat) (es:List E) (d:List Int) (h1:1≤n) (h12:n≤12) (hd:d.length=n):
  ACallH Tryz.prog 116 [.box [.int .i64 (n:Int),.slice (A0f es) .none]] [ofT (tG ⟨(n:Int),es⟩),.c (.int .i64 (q:Int)),.c (.slice (A0p d) .none)] [.box [.int .i64 (n:Int),.slice (A0f es) .none],.ro [.int .i64 (n:Int),.slice (A0f es)],.box (iC d),.box (iC (List.replicate n 0)),.box [.int .i64 (n:Int),.slice (A0f es) .none,.int .i64 (q:Int),.ref 2 1 0 n n,.ref 3 1 0 n n,.int .i64 0]] (.c (.ptr 4 0)):=by
 have hdn:d≠[]:=by intro e; rw [e] at hd; simp at hd; omega
 have hC:ACallH Tryz.prog 157 [.box [.int .i64 (n:Int),.slice (A0f es) .none],.ro [.int .i64 (n:Int),.slice (A0f es)]] [.c (.slice (A0p d) .none)] [.box [.int .i64 (n:Int),.slice (A0f es) .none],.ro [.int .i64 (n:Int),.slice (A0f es)],.box (iC d)] (.c (.ref 2 1 0 n n)):=by
  have:=(B33 d hdn (by omega)).h (H:=[.box [.int .i64 (n:Int),.slice (A0f es) .none],.ro [.int .i64 (n:Int),.slice (A0f es)]]) (args:=[.c (.slice (A0p d) .none)]) (by with_unfolding_all rfl);rw [A7o,A0e,hd] at this;exact this
 have hC2:ACallH Tryz.prog 157 [.box [.int .i64 (n:Int),.slice (A0f es) .none],.ro [.int .i64 (n:Int),.slice (A0f es)],.box (iC (List.replicate n 0))] [.c (.slice (A0p d) .none)] [.box [.int .i64 (n:Int),.slice (A0f es) .none],.ro [.int .i64 (n:Int),.slice (A0f es)],.box (iC (List.replicate n 0)),.box (iC d)] (.c (.ref 3 1 0 n n)):=by
  have:=(B33 d hdn (by omega)).h (H:=[.box [.int .i64 (n:Int),.slice (A0f es) .none],.ro [.int .i64 (n:Int),.slice (A0f es)],.box (iC (List.replicate n 0))]) (args:=[.c (.slice (A0p d) .none)]) (by with_unfolding_all rfl);rw [A7o,A0e,hd] at this;exact this
 have hsw: ∀l:List Int,(iC l).mapM (A8T 2 3)=some (iC l):=fun l=>by
  induction l with
  | nil=>rfl
  | cons x l ih=>
   unfold iC at ih ⊢;rw [XQ,JZ,ih]; rfl
 simp only [tG,ofT,A3u,A02,XQ,ZX];refine ACallE.swapTo (H2:=[.box [.int .i64 (n:Int),.slice (A0f es) .none],.ro [.int .i64 (n:Int),.slice (A0f es)],.box (iC (List.replicate n 0)),.box (iC d),.box [.int .i64 (n:Int),.slice (A0f es) .none,.int .i64 (q:Int),.ref 3 1 0 n n,.ref 2 1 0 n n,.int .i64 0]]) (c2:= .ptr 4 0) ?_ 2 3 (by show 1≤2; decide) (by show 1≤3; decide) (by show 2<5; decide) (by show 3<5; decide) rfl (fun id hid=> ?_) rfl
 ·refine ACallE.of_body Tryz.func116 rfl (by kernel_rfl) ?_;simp only [entry,Tryz.ntmps116,List.length_cons,List.length_nil,Nat.reduceAdd,Nat.reduceSub,List.replicate_succ,List.replicate_zero,List.cons_append,List.nil_append];refine zJ (stop 1) trivial trivial trivial trivial ?_;refine AWp.freezeP 3 1 rfl rfl (ts:=[.int .i64 (n:Int),.slice (A0f es)]) rfl ?_;simp only [List.set_cons_succ,List.set_cons_zero];refine AWp.seq_draw2c (wd:= .loud) 1 3 3 6 (by decide+kernel) (fun K hK=> ?_) (fun K hK=> ?_)
  ·
   repeat' (first|((refine zT ?_;intro K' hK')<;>((try simp+contextual only [go_sem,A2h,Int.toNat_natCast,Wq,XX]);(repeat' first|(with_reducible refine hK' _ _ ?_;clear hK' K')|((with_reducible first|refine ⟨_,_,hC,?_⟩|refine ⟨_,hC,?_⟩);try simp+contextual only [go_sem,A2h,Int.toNat_natCast,Wq,XX])|exact zY|with_reducible refine Qv5 ?_ ?_|(with_reducible intro hpath;try exact zP)|(refine hK' _ _ ?_;clear hK' K')|fail);try refine zS ?_))|(refine zE ?_;refine hK _ _ ?_;clear hK K)|refine zA ?_|fail)
   simp [C4g,A2c,A0v,A2b,Tryz.results116]
  ·
   simp only [C4i,C5E,List.take_succ_cons,List.take_zero,Zw,ZY,List.cons_append,List.nil_append,Nat.reduceMul]
   repeat' (first|((refine zT ?_;intro K' hK')<;>((try simp+contextual only [go_sem,A2h,Int.toNat_natCast,Wq,XX]);(repeat' first|(with_reducible refine hK' _ _ ?_;clear hK' K')|((with_reducible first|refine ⟨_,_,hC2,?_⟩|refine ⟨_,hC2,?_⟩);try simp+contextual only [go_sem,A2h,Int.toNat_natCast,Wq,XX])|exact zY|with_reducible refine Qv5 ?_ ?_|(with_reducible intro hpath;try exact zP)|(refine hK' _ _ ?_;clear hK' K')|fail);try refine zS ?_))|(refine zE ?_;refine hK _ _ ?_;clear hK K)|refine zA ?_|fail)
   simp [C4g,A2c,A0v,A2b,Tryz.results116]
 ·simp only [List.length_cons,List.length_nil,Nat.reduceAdd] at hid
  match id,hid with
  | 0,_=>exact .inl ⟨_,_,rfl,rfl,rfl⟩
  | 1,_=>exact .inr ⟨_,rfl,rfl⟩
  | 2,_=>exact .inl ⟨_,_,rfl,hsw _,rfl⟩
  | 3,_=>exact .inl ⟨_,_,rfl,hsw _,rfl⟩
  | 4,_=>exact .inl ⟨_,_,rfl,rfl,rfl⟩
def C0W (n q:Nat) (es:List E) (d:List Int) (hq:q<n) (hd:d.length=n) (h1:1≤n) (h12:n≤12) (hl:es.length<2^30) (hc:checkG ⟨(n:Int),es⟩=0) (hcc:connB ⟨(n:Int),es⟩=true) (hb:bndL 1048576 d):ACall Tryz.prog 115 [tG ⟨(n:Int),es⟩,A0n q,A0q d] (A0n 0):=by
 have hC:ACall Tryz.prog 129 [tG ⟨(n:Int),es⟩] (.tup [A0x true,A0n 0]):=by
  have:=A3D ⟨(n:Int),es⟩ hl;rw [hc,hcc] at this;exact this
 have hChk:=A6S d n h1 h12 hd hb;have h0: ¬((q:Int)<0):=by omega
 have h2: ¬((q:Int)≥(n:Int)):=by omega
 refine ACall.of_body Tryz.func115 rfl (by kernel_rfl) ?_;simp only [entry,Tryz.ntmps115,tG,A0n,A0q];refine zU ?_;refine zR (zc @h0 (zc @h2 Qv6)) (zc hC (zc hChk Qv6)) Qv6 ?_;simp [A00,A0z,Blk.cells,ty,Tryz.results115,A0v,A0w,toT,A0d,A0b,A0c,A0a,A0n]
section
variable {n:Nat} {es:List E}
end
structure Gok (n:Nat) (es:List E):Prop where
 h1:1≤n
 h12:n≤12
 hl:es.length≤40
 hE:EsOk n es
 hm1: ∀e,e∈es->1≤e.m
 hM:Mult n (mulE es)
 hc:checkG ⟨(n:Int),es⟩=0
 hcc:connB ⟨(n:Int),es⟩=true
structure Dok (n:Nat) (es:List E) (d:List Int):Prop where
 len:d.length=n
 bnd: ∃B C P:Int,0≤B∧bndL B d∧B≤C∧(∀q far,q<n->BFq es n q far []->powF (levF es far) B (n-1)≤C)∧sumR (fun v=>max 0 (d.getD v 0)) n≤P∧C+P≤1048576∧C+n*P≤1048576
def C3H (ls:List (List Int)) (n:Nat) (h1:1≤n) (h12:n≤12) (hll:ls.length<2^20) (hls: ∀d,d∈ls->d.length=n∧bndL 1048576 d):ACall Tryz.prog 112 [.t (.slice (A0u ls))] (A0n 0):=by
 refine ACall.of_body Tryz.func112 rfl (by kernel_rfl) ?_;simp only [entry,Tryz.ntmps112,A0n];refine zU ?_;refine zJ (stop 2) (zc @A0o Qv6) Qv6 Qv6 Qv6 ?_;refine AWp.loopS (α:=Nat) 36 (fun i=>[(0,.c (.slice (A0u ls) .none)),(8,.c (.slice (A0u ls) .none)),(9,.c (.int .i64 (ls.length:Int))),(10,.c (.int .i64 (i:Int)))]) (fun i=>[]) (fun i=>i≤ls.length) (fun i=>ls.length-i) (0) (hk:=Weak.headL 0 36 [0,8,9,10] (zV3 @A1k @A0N @A0H)) (h0:=?_) (round:=fun i hI=>?_)
 ·exact Xw _
 ·have hi:i≤ls.length:=hI;clear hI;by_cases hil:i<ls.length
  ·have hiI:(i:Int)<(ls.length:Int):=by omega
   have hge:=Qq hil;have hg:=A0U hge;obtain ⟨d1,d2⟩:=hls _ (Qy hge);generalize ls[i]=d at*;have hC:=A6S d n h1 h12 d1 d2;refine zR (zc @hiI (zc @hg (zc @A0o (zc @A0e (zc @d1 (zc @XX Qv6)))))) (zc hC Qv6) Qv6 ?_;refine ⟨i+1,Weak.headN 0 36 [0,8,9,10] (zV3 @A1k @A0N @A0H),?_,?_⟩
   ·exact hil
   ·omega
  ·have hnl: ¬(i:Int)<(ls.length:Int):=by omega
   refine zJ (stop 9) (zc @hnl (zc @A0o Qv6)) Qv6 Qv6 Qv6 ?_;refine AWp.loopS (α:=Nat) 36 (fun j=>[(0,.c (.slice (A0u ls) .none)),(22,.c (.slice (A0u ls) .none)),(23,.c (.int .i64 (ls.length:Int))),(24,.c (.int .i64 (j:Int)))]) (fun j=>[]) (fun j=>j≤ls.length) (fun j=>ls.length-j) (0) (hk:=Weak.headL 0 36 [0,22,23,24] (zV3 @A1k @A0N @A0H)) (h0:=?_) (round:=fun j hI=>?_)
   ·exact Xw _
   ·have hj:j≤ls.length:=hI;clear hI;by_cases hjl:j<ls.length
    ·have hjI:(j:Int)<(ls.length:Int):=by omega
     have h0I:(0:Int)<(ls.length:Int):=by omega
     have hge:=Qq hjl;have hg:=A0U hge;have hge0:=Qq (show 0<ls.length by omega);have hg0:=A0U hge0;obtain ⟨d1,d2⟩:=hls _ (Qy hge);obtain ⟨d3,d4⟩:=hls _ (Qy hge0);generalize ls[j]=d at*;generalize ls[0]=d0 at*;refine zR (zc @hjI (zc @h0I (zc @hg (zc @hg0 (zc @A0o (zc @A0e (zc @d1 (zc @d3 (zc @Int.toNat_zero (zc @XX Qv6)))))))))) Qv6 Qv6 ?_;refine ⟨j+1,Weak.headN 0 36 [0,22,23,24] (zV3 @A1k @A0N @A0H),?_,?_⟩
     ·exact hjl
     ·omega
    ·have hnl2: ¬(j:Int)<(ls.length:Int):=by omega
     refine zR (zc @hnl2 Qv6) Qv6 Qv6 ?_;simp [A00,A0z,Blk.cells,ty,Tryz.results112,A0v,A0w,toT,A0d,A0b,A0c,A0a,A0n]
def B6j {d:List Int} {K:Int} (h:bndL K d): ∀i:Nat,-(K*i)≤sumR (fun v=>d.getD v 0) i∧sumR (fun v=>d.getD v 0) i≤K*i
 | 0=>by simp [sumR]
 | i+1=>by
  have h1:=B6j h i;have h2:=h i;have e:K*((i+1:Nat):Int)=K*i+K:=by rw [Int.natCast_add,Qv3]; simp
  simp only [sumR];omega
def C1n (d:List Int) (n:Nat):Int:=sumR (fun v=>d.getD v 0) n
def B7A (d:List Int) (n:Nat) (h1:1≤n) (h12:n≤12) (hd:d.length=n) (hb:bndL 1048576 d):ACall Tryz.prog 71 [A0q d] (.tup [A0n (C1n d n),A0n 0]):=by
 have hO:=C3H [d] n h1 h12 (by show 1<2^20; decide) (fun x hx=>by rw [Zq] at hx; subst hx; exact ⟨hd,hb⟩);have e0:C1n d 0=0:=rfl;simp only [A0u,XQ,ZX] at hO;refine ACall.of_body Tryz.func71 rfl (by kernel_rfl) ?_;simp only [entry,Tryz.ntmps71,A0q];refine zU ?_;refine zMc (stop 6) (zc @A0e (zc @hd Qv6)) (zc hO Qv6) Qv6 Qv6 (ed fun hp hpc=>?_);refine AWp.loopS (α:=Nat) 25 (fun i=>[(5,.c (.int .i64 (C1n d i))),(14,.c (.slice (A0p d) .none)),(15,.c (.int .i64 (n:Int))),(16,.c (.int .i64 (i:Int)))]) (fun i=>[]) (fun i=>i≤n) (fun i=>n-i) (0) (hk:=Weak.headL 0 25 [5,14,15,16] (zV3 @A1k @A0N @A0H)) (h0:=?_) (round:=fun i hI=>?_)
 ·exact Xw _
 ·have hi:i≤n:=hI;clear hI;by_cases hil:i<n
  ·have hiI:(i:Int)<(n:Int):=by omega
   have hg:=A0y (A13 (d:=d) (i:=i) (by omega));have hx:=hb i;have hs: -(1048576*i)≤C1n d i∧C1n d i≤1048576*i:=B6j hb i;have hnx:C1n d (i+1)=C1n d i+d.getD i 0:=rfl;generalize hN1:C1n d (i+1)=N1 at*;generalize C1n d i=N0 at*;generalize d.getD i 0=x at*;refine zR (zc @hiI (zc @hg (zc @A0e (zc @hd (zc @XX Qv6))))) Qv6 Qv6 ?_;refine ⟨i+1,Weak.headF 0 25 [5,14,15,16] (zc @hN1 (zc @hnx Qv6)) (zV3 @A1k @A0N @A0H),?_,?_⟩
   ·exact hil
   ·omega
  ·have hnl: ¬(i:Int)<(n:Int):=by omega
   have ei:i=n:=by omega
   rw [ei];rw [ei] at hnl;refine zR (zc @hnl Qv6) Qv6 Qv6 ?_;simp [A00,A0z,Blk.cells,ty,Tryz.results71,A0v,A0w,toT,A0d,A0b,A0c,A0a,A0n]
def B2d (a b:List Int) (n i:Nat):List Int:=(List.range n).map fun v=>if v<i then a.getD v 0+b.getD v 0 else 0
def A8x (a b:List Int) (n i:Nat):(B2d a b n i).length=n:=by simp [B2d]
def B6k (a b:List Int) (n i v:Nat):(B2d a b n i)[v]? =if v<n then some (if v<i then a.getD v 0+b.getD v 0 else 0) else none:=by
 unfold B2d;rw [QW];by_cases h:v<n
 ·rw [if_pos h,Yv h]; rfl
 ·rw [if_neg h,Xx (by simpa using h)]; rfl
def C3g (a b:List Int) {n i:Nat} (hi:i<n):(B2d a b n i).set i (a.getD i 0+b.getD i 0)=B2d a b n (i+1):=by
 apply Zx;intro j;rw [Qw9,A8x,B6k,B6k];by_cases e:i=j
 ·subst e;rw [if_pos rfl,if_pos hi,if_pos hi,if_pos (by omega)]
 ·rw [if_neg e];by_cases h:j<n
  ·rw [if_pos h,if_pos h];by_cases h2:j<i
   ·rw [if_pos h2,if_pos (by omega)]
   ·rw [if_neg h2,if_neg (by omega)]
  ·rw [if_neg h,if_neg h]
def C0X (a b:List Int) (n:Nat):B2d a b n 0=List.replicate n 0:=by
 apply Qq6
 ·simp [B2d]
 ·intro i h1 h2; simp [B2d]
def C51 (x y:Int) (h: -(2^40)≤x∧x≤2^40) (h': -(2^40)≤y∧y≤2^40):ACall Tryz.prog 114 [A0n x,A0n y] (A0n (x+y)):=by
 refine ACall.of_body Tryz.func114 rfl (by kernel_rfl) ?_;simp only [entry,Tryz.ntmps114,A0n];refine zU ?_;refine zR Qv6 Qv6 Qv6 ?_;simp [A00,A0z,Blk.cells,ty,Tryz.results114,A0v,A0w,toT,A0d,A0b,A0c,A0a,A0n]
def C0Y (a b:List Int) (n:Nat) (h1:1≤n) (h12:n≤12) (ha:a.length=n) (hb:b.length=n) (ha1:bndL 1048576 a) (hb1:bndL 1048576 b) (hs: ∀v,v<n-> -1048576≤a.getD v 0+b.getD v 0∧a.getD v 0+b.getD v 0≤1048576):
  ACallH Tryz.prog 113 [] [.c (.slice (A0p a) .none),.c (.slice (A0p b) .none),.c (.fn 114 [])] [.box (iC (B2d a b n n))] (.tup [.c (.ref 0 1 0 n n),.c (.int .i64 0)]):=by
 have hO:=C3H [a,b] n h1 h12 (by show 2<2^20; decide) (fun x hx=>by
  simp only [Qw,Qv,or_false] at hx;rcases hx with rfl | rfl
  ·exact ⟨ha,ha1⟩
  ·exact ⟨hb,hb1⟩)
 simp only [A0u,XQ,ZX] at hO;have hnI:(0:Int)≤(n:Int):=by omega
 refine ACallH.of_body Tryz.func113 rfl (by kernel_rfl) ?_;simp only [entry,Tryz.ntmps113,List.length_cons,List.length_nil,Nat.reduceAdd,Nat.reduceSub,List.replicate_succ,List.replicate_zero,List.cons_append,List.nil_append];refine zMc (stop 6) (zc @A0e (zc @ha (zc @A2h (zc @A1N (zc @Yz.{0} Qv6))))) (zc hO Qv6) Qv6 Qv6 (ed fun hp hpc=>?_);rw [<-C0X a b n];refine AWp.loopS (α:=Nat) 47 (fun i=>[(0,.c (.slice (A0p a) .none)),(1,.c (.slice (A0p b) .none)),(2,.c (.fn 114 [])),(9,.c (.ref 0 1 0 n n)),(22,.c (.int .i64 (n:Int))),(23,.c (.int .i64 (i:Int)))]) (fun i=>[.box (iC (B2d a b n i))]) (fun i=>i≤n) (fun i=>n-i) (0) (hk:=Weak.headL 1 47 [0,1,2,9,22,23] (zV3 @A1k @A0N @A0H)) (h0:=?_) (round:=fun i hI=>?_)
 ·exact Xw _
 ·have hi:i≤n:=hI;clear hI;by_cases hil:i<n
  ·have hiI:(i:Int)<(n:Int):=by omega
   have ga:=A0y (A13 (d:=a) (i:=i) (by omega));have gb:=A0y (A13 (d:=b) (i:=i) (by omega));have hF:=C51 (a.getD i 0) (b.getD i 0) (by have:=ha1 i; omega) (by have:=hb1 i; omega);have hw:=B0X (a.getD i 0+b.getD i 0) (hs i hil);have hns:=C3g a b hil;have hnl:=A8x a b n i;have hst:=B0z (B2d a b n i) i (a.getD i 0+b.getD i 0);rw [hns] at hst;have hl1:=A8x a b n (i+1);have hg2:(iC (B2d a b n (i+1)))[i]? =some (.int .i64 (a.getD i 0+b.getD i 0)):=by rw [<-hst]; exact QZ (by rw [A1N,hnl]; exact hil)
   clear hns hs ha1 hb1 hO;generalize hn1:B2d a b n (i+1)=N1 at*;generalize B2d a b n i=N0 at*;generalize a.getD i 0=x at*;generalize b.getD i 0=y at*;refine zR (zc @hiI (zc @ga (zc @gb (zc @hst (zc @hg2 (zc @hnl (zc @hl1 (zc @A1N (zc @A0e (zc @ha (zc @hb (zc @XX Qv6)))))))))))) (zc hF (zc hw Qv6)) Qv6 ?_;refine ⟨i+1,Weak.headF 1 47 [0,1,2,9,22,23] (zc @hn1 Qv6) (zV3 @A1k @A0N @A0H),?_,?_⟩
   ·exact hil
   ·omega
  ·have hnl: ¬(i:Int)<(n:Int):=by omega
   have ei:i=n:=by omega
   rw [ei];rw [ei] at hnl;refine zR (zc @hnl Qv6) Qv6 Qv6 ?_;simp [A4O,A2c,A0v,A2b,Tryz.results113]
def C6D (a b:List Int) (n:Nat) (h1:1≤n) (h12:n≤12) (ha:a.length=n) (hb:b.length=n) (ha1:bndL 1048576 a) (hb1:bndL 1048576 b) (hs: ∀v,v<n-> -1048576≤a.getD v 0+b.getD v 0∧a.getD v 0+b.getD v 0≤1048576):
  ACall Tryz.prog 72 [A0q a,A0q b] (.tup [A0q (B2d a b n n),A0n 0]):=by
 have hE:=C0Y a b n h1 h12 ha hb ha1 hb1 hs;have hl:=A8x a b n n;generalize B2d a b n n=d at*;have hbi: ∀(H:List Blk) (k:IntKind) (x:Int),A0d H (.int k x)=some (.int k x):=fun _ _ _=>rfl;have hr0:A0d [.box (iC d)] (.ref 0 1 0 n n)=some (.slice (A0p d)):=B0K hl rfl;refine ACall.of_body Tryz.func72 rfl (by kernel_rfl) ?_;simp only [entry,Tryz.ntmps72,A0q];refine zU ?_;refine zJ Qv6 Qv6 Qv6 (zc hE Qv6) Qv6 ?_;simp [A00,A0z,Tryz.results72,A0v,A0w,toT,hr0,hbi,A0q,A0n]
end Go.Proofs.YtdbdfkohpjefjaaGreat
