/- A part of the proof. -/
import Derived.Test.YtdbdfkohpjefjaaGreatPart25
set_option linter.all false
set_option maxHeartbeats 4000000
set_option maxRecDepth 100000
namespace Go.Proofs.YtdbdfkohpjefjaaGreat
open Go.Sp
def A6W (l:List Int):Nat->Int
 | 0=>l.getD 0 0
 | k+1=>max (A6W l k) (l.getD (k+1) 0)
def B65 (l:List Int): ∀k i,i≤k->l.getD i 0≤A6W l k
 | 0,i,h=>by rw [show i=0 by omega]; exact Jj _
 | k+1,i,h=>by
  unfold A6W;by_cases e:i=k+1
  ·subst e; omega
  ·have:=B65 l k i (by omega); omega
def B66 (l:List Int): ∀k,∃i,i≤k∧A6W l k=l.getD i 0
 | 0=>⟨0,Qk _,rfl⟩
 | k+1=>by
  obtain ⟨i,h1,h2⟩:=B66 l k;unfold A6W;rcases Int.le_total (A6W l k) (l.getD (k+1) 0) with h | h
  ·exact ⟨k+1,Qk _,by omega⟩
  ·exact ⟨i,by omega,by omega⟩
def C7i (l:List Int) (hne:l≠[]) (hl:l.length<2^40):ACall Tryz.prog 160 [A0k l] (A0j (A6W l (l.length-1))):=by
 have hp:0<l.length:=Wy.2 hne;have e0:=Qq hp;have r0:=A0t e0;have d0:l.getD 0 0=l[0]:=by rw [Qz,e0]; rfl
 generalize l[0]=x0 at*;refine ACall.of_body Tryz.func160 rfl (by kernel_rfl) ?_;simp only [entry,Tryz.ntmps160,A0k];refine zU ?_;refine zR (zc @A0e (zc @r0 (zc @Int.toNat_zero Qv5))) Qv5 Qv5 ?_;have hx0:x0=A6W l 0:=d0.symm;rw [hx0];refine AWp.loopS (α:=Nat) 25 (fun i=>[(0,.c (.slice (A0l l) .none)),(3,.c (.int .i64 (A6W l i))),(4,.c (.int .i64 ((i:Int)+1)))]) (fun i=>[]) (fun i=>i<l.length) (fun i=>l.length-i) (0) (hk:=Weak.headL 0 25 [0,3,4] (zWs (zc @A0V (zc @A0O @A0L)))) (h0:=?_) (round:=fun i hI=>?_)
 ·exact hp
 ·by_cases hlt:i+1<l.length
  ·have hltI:(i:Int)+1<l.length:=by omega
   have e1:=Qq hlt;have r1:=A0t e1;have d1:l.getD (i+1) 0=l[i+1]:=by rw [Qz,e1]; rfl
   have hnx:A6W l (i+1)=max (A6W l i) (l.getD (i+1) 0):=rfl;rw [d1] at hnx;have ht:((i:Int)+1).toNat=i+1:=by omega
   generalize l[i+1]=y at*;generalize A6W l i=m at*;refine zR (zc @hltI (zc @A0e (zc @r1 (zc @ht Qv5)))) Qv5 Qv5 ?_;refine ⟨i+1,Weak.headF 0 25 [0,3,4] (zc @hnx Qv5) (zWs (zc @A0V (zc @A0O @A0L))),?_,?_⟩
   ·omega
   ·omega
  ·have ei:A6W l (l.length-1)=A6W l i:=by congr 1; omega
   have hnl: ¬((i:Int)+1<l.length):=by omega
   rw [ei];refine zR (zc @hnl (zc @A0e Qv5)) Qv5 Qv5 ?_;simp [A0s,A0r,Blk.cells,ty,Tryz.results160,A0o,A0p,toT,A0d,A0b,A0c,A0a,A0j]
def B3J (n q:Nat) (es:List E) (d s:List Int) (h1:1≤n) (h12:n≤12) (hq:q<n) (hd:d.length=n) (hs:s.length=n) (hl:es.length≤40) (hm: ∀e,e∈es->(0≤e.a∧e.a<n)∧(0≤e.b∧e.b<n)∧0≤e.m∧e.m≤50) (B:List Int) (pB:Nat) (hB:DEnd es (A8f n q,[q],0) B pB) (hBl:B.length=n):
  ACallH Tryz.prog 158 [.box [.int .i64 (n:Int),.slice (A0f es) .none],.ro [.int .i64 (n:Int),.slice (A0f es)],.box (iC d),.box (iC s),.roC [.tree (.int .i64 (n:Int)),.tree (.slice (A0f es)),.tree (.int .i64 (q:Int)),.ref 2 1 0 n n,.ref 3 1 0 n n,.tree (.int .i64 0)]] [.c (.ptr 4 0)] [.box [.int .i64 (n:Int),.slice (A0f es) .none],.ro [.int .i64 (n:Int),.slice (A0f es)],.box (iC d),.box (iC s),.roC [.tree (.int .i64 (n:Int)),.tree (.slice (A0f es)),.tree (.int .i64 (q:Int)),.ref 2 1 0 n n,.ref 3 1 0 n n,.tree (.int .i64 0)]] (.c (.slice (A0l B) .none)):=
 ((B2a n q es d s h1 h12 hq hd hs hl hm B pB hB hBl).trim (by simp) (show 5<6 by decide) (fun b hb=>by
  rcases XZ.1 hb with hb | hb
  ·exact B37 n q es d s (m:=6) (by decide) b hb
  ·rw [XQ] at hb; subst hb; exact A0V)).data (Qk _) (B37 n q es d s (m:=5) (by decide)) (A65 B) (by rw [A0e,hBl]) (Qk _) (fun r hr=>A1c hr) (A4Z B)
def A6X (far:List Int) (k:Int) (n i:Nat):List Bool:=(List.range n).map fun v=>decide (v<i)&&decide (far.getD v 0<k)
def A9N (far:List Int) (k:Int) (n i:Nat):(A6X far k n i).length=n:=by simp [A6X]
def B3K (far:List Int) (k:Int) (n i v:Nat):(A6X far k n i)[v]? =if v<n then some (decide (v<i)&&decide (far.getD v 0<k)) else none:=by
 unfold A6X;rw [QQ];by_cases h:v<n
 ·rw [if_pos h,Yv h]; rfl
 ·rw [if_neg h,Xq (by simpa using h)]; rfl
def C12 (far:List Int) (k:Int) {n i:Nat} (hi:i<n):(A6X far k n i).set i (decide (far.getD i 0<k))=A6X far k n (i+1):=by
 apply Zq;intro j;rw [Qq0,A9N,B3K,B3K];by_cases e:i=j
 ·subst e;rw [if_pos rfl,if_pos hi,if_pos hi,decide_eq_true (show i<i+1 by omega)]; rfl
 ·rw [if_neg e];by_cases h:j<n
  ·rw [if_pos h,if_pos h,decide_eq_decide.2 (show j<i↔j<i+1 by omega)]
  ·rw [if_neg h,if_neg h]
def B7W (far:List Int) (k:Int) (n:Nat):A6X far k n 0=List.replicate n false:=by
 apply VJ
 ·simp [A6X]
 ·intro i h1 h2; simp [A6X]
def jnS (es:List E) (A:List Bool) (v:Nat):Int:=joinL (fun u=> !A.getD u.toNat false) (lnkL es v)
def minS (es:List E) (d:List Int) (A:List Bool):Nat->Int
 | 0=>0
 | v+1=>if A.getD v false=true∧0<jnS es A v then (if minS es d A v=0∨(d.getD v 0).tdiv (jnS es A v)<minS es d A v then (d.getD v 0).tdiv (jnS es A v) else minS es d A v) else minS es d A v
def B1j (n:Nat) (B:List Bool):List Bool:=B2o B n n
def C5T (n:Nat) (es:List E) (B:List Bool) (w:List Int×List Int):List Int×List Int:=
 (C55 es (minS es w.1 (B1j n B) n) (B1j n B) n w.1,C3r (minS es w.1 (B1j n B) n) (B1j n B) n w.2)
inductive SEnd (es:List E) (n q:Nat):List Int×List Int->List Int×List Int->List Bool->Prop where
 | stop {w:List Int×List Int} {B:List Bool}:BEnd es w.1 n (A9F n q) B->B.length=n->A6P B n=false->SEnd es n q w w B
 | go {w W:List Int×List Int} {B Z:List Bool}:BEnd es w.1 n (A9F n q) B->B.length=n->A6P B n=true->C7U es w.1 q B->(∀v,v<n->C6k es w.1 B v=false)->SEnd es n q (C5T n es B w) W Z->SEnd es n q w W Z
section
variable {n:Nat} {es:List E}
structure SInv (n:Nat) (es:List E) (q:Nat) (d0:List Int) (X Y sq:Int) (w:List Int×List Int):Prop where
 dl:w.1.length=n
 sl:w.2.length=n
 led:Led n es d0 w.1 w.2
 don: ∀v,v<n->v≠q->0≤w.1.getD v 0
 dq: -X≤w.1.getD q 0
 low: ∀v,v<n-> -Y≤w.2.getD v 0
 sq:w.2.getD q 0=sq
end
def B7X (n q:Nat) (es:List E) (d s:List Int) (h1:1≤n) (h12:n≤12) (hq:q<n) (hd:d.length=n) (hs:s.length=n) (hl:es.length≤40) (hm: ∀e,e∈es->(0≤e.a∧e.a<n)∧(0≤e.b∧e.b<n)∧0≤e.m∧e.m≤50) (B:List Bool) (hB:BEnd es d n (A9F n q) B) (hBl:B.length=n):
  ACallH Tryz.prog 163 [.box [.int .i64 (n:Int),.slice (A0f es) .none],.ro [.int .i64 (n:Int),.slice (A0f es)],.box (iC d),.box (iC s),.roC [.tree (.int .i64 (n:Int)),.tree (.slice (A0f es)),.tree (.int .i64 (q:Int)),.ref 2 1 0 n n,.ref 3 1 0 n n,.tree (.int .i64 0)]] [.c (.ptr 4 0)] [.box [.int .i64 (n:Int),.slice (A0f es) .none],.ro [.int .i64 (n:Int),.slice (A0f es)],.box (iC d),.box (iC s),.roC [.tree (.int .i64 (n:Int)),.tree (.slice (A0f es)),.tree (.int .i64 (q:Int)),.ref 2 1 0 n n,.ref 3 1 0 n n,.tree (.int .i64 0)]] (.tup [.c (.slice (A46 (B1j n B)) .none),.c (.bool (A6P B n))]):=by
 obtain ⟨X,hX⟩:=B5g n q es d s h1 h12 hq hd hs hl hm B hB hBl;refine hX.trim (Qk _) (fun x hx=> ?_) (B37 n q es d s (m:=5) (by decide));simp only [QV,XJ,or_false] at hx;rcases hx with rfl | rfl<;>exact Qv3
def B1k (k:Int) (h: -1048576≤k∧k≤1048576):ACall Tryz.prog 107 [A0j k] (A0q true):=by
 have h1:k≥ -1048576:=h.1;have h2:k≤1048576:=h.2;refine ACall.of_body Tryz.func107 rfl (by kernel_rfl) ?_;simp only [entry,Tryz.ntmps107,A0j];refine zU ?_;refine zR (zc @h1 (zc @h2 Qv5)) Qv5 Qv5 ?_;simp [A0s,A0r,Blk.cells,ty,Tryz.results107,A0o,A0p,toT,A0d,A0b,A0c,A0a,A0q]
def B3L (n:Int) (h:1≤n∧n≤12):ACall Tryz.prog 106 [A0j n] (A0j 0):=by
 have h1: ¬(n<1):=by omega
 have h2: ¬(n>12):=by omega
 refine ACall.of_body Tryz.func106 rfl (by kernel_rfl) ?_;simp only [entry,Tryz.ntmps106,A0j];refine zU ?_;refine zR (zc @h1 (zc @h2 Qv5)) Qv5 Qv5 ?_;simp [A0s,A0r,Blk.cells,ty,Tryz.results106,A0o,A0p,toT,A0d,A0b,A0c,A0a,A0j]
def A6Y (d:List Int) (n:Nat) (h1:1≤n) (h12:n≤12) (hd:d.length=n) (hb:bndL 1048576 d):ACall Tryz.prog 63 [A0k d,A0j n] (A0j 0):=by
 have hV:=B3L n (by omega);refine ACall.of_body Tryz.func63 rfl (by kernel_rfl) ?_;simp only [entry,Tryz.ntmps63,A0k,A0j];refine zU ?_;refine zJ (stop 7) (zc @A0e (zc @hd Qv5)) (zc hV Qv5) Qv5 Qv5 ?_;refine AWp.loopS (α:=Nat) 27 (fun i=>[(17,.c (.slice (A0l d) .none)),(18,.c (.int .i64 (n:Int))),(19,.c (.int .i64 (i:Int)))]) (fun i=>[]) (fun i=>i≤n) (fun i=>n-i) (0) (hk:=Weak.headL 0 27 [17,18,19] (zWs (zc @A0V (zc @A0O @A0L)))) (h0:=?_) (round:=fun i hI=>?_)
 ·exact Xj _
 ·have hi:i≤n:=hI;clear hI;by_cases hil:i<n
  ·have hiI:(i:Int)<(n:Int):=by omega
   have hg:=A0t (A1t (d:=d) (i:=i) (by omega));have hw:=B1k (d.getD i 0) (hb i);generalize d.getD i 0=x at*;refine zR (zc @hiI (zc @hg (zc @A0e (zc @hd (zc @XX Qv5))))) (zc hw Qv5) Qv5 ?_;refine ⟨i+1,Weak.headN 0 27 [17,18,19] (zWs (zc @A0V (zc @A0O @A0L))),?_,?_⟩
   ·exact hil
   ·omega
  ·have hnl: ¬(i:Int)<(n:Int):=by omega
   refine zR (zc @hnl Qv5) Qv5 Qv5 ?_;simp [A0s,A0r,Blk.cells,ty,Tryz.results63,A0o,A0p,toT,A0d,A0b,A0c,A0a,A0j]
def A2J (s:List Int) (c:Int):Nat->List Int
 | 0=>s
 | i+1=>(A2J s c i).set i ((A2J s c i).getD i 0-c)
def A5m (s:List Int) (c:Int): ∀i,(A2J s c i).length=s.length
 | 0=>rfl
 | i+1=>by unfold A2J; rw [Yz]; exact A5m s c i
def A6Z (s:List Int) (c:Int) (v:Nat): ∀i,i≤s.length->(A2J s c i).getD v 0=if v<i then s.getD v 0-c else s.getD v 0
 | 0,_=>by rw [if_neg (by omega)]; rfl
 | i+1,hi=>by
  unfold A2J;rw [A5k _ _ _ _ (by rw [A5m]; omega),A6Z s c v i (by omega),A6Z s c i i (by omega),if_neg (Nat.lt_irrefl i)];by_cases e:v=i
  ·subst e; rw [if_pos rfl,if_pos (by omega)]
  ·rw [if_neg e];by_cases h:v<i
   ·rw [if_pos h,if_pos (by omega)]
   ·rw [if_neg h,if_neg (by omega)]
def C13 (n q:Nat) (es:List E) (d s:List Int) (h1:1≤n) (h12:n≤12) (hq:q<n) (hd:d.length=n) (hs:s.length=n) (hdb:bndL 1048576 d) (hsb:bndL (2^40) s) (hsc:bndL 1048576 (A2J s (s.getD q 0) n)):
  ACallH Tryz.prog 119 [.box [.int .i64 (n:Int),.slice (A0f es) .none],.ro [.int .i64 (n:Int),.slice (A0f es)],.box (iC d),.box (iC s),.roC [.tree (.int .i64 (n:Int)),.tree (.slice (A0f es)),.tree (.int .i64 (q:Int)),.ref 2 1 0 n n,.ref 3 1 0 n n,.tree (.int .i64 0)]] [.c (.ptr 4 0)] [.box [.int .i64 (n:Int),.slice (A0f es) .none],.ro [.int .i64 (n:Int),.slice (A0f es)],.box (iC d),.box (iC (A2J s (s.getD q 0) n)),.roC [.tree (.int .i64 (n:Int)),.tree (.slice (A0f es)),.tree (.int .i64 (q:Int)),.ref 2 1 0 n n,.ref 3 1 0 n n,.tree (.int .i64 0)]] (.tup [.c (.ref 2 1 0 n n),.c (.ref 3 1 0 n n),.c (.int .i64 0)]):=by
 have hqI:(q:Int)<(n:Int):=by omega
 have hgq:=A5K (A1t (d:=s) (i:=q) (by omega));have hqb:=hsb q;have hC1:=A6Y d n h1 h12 hd hdb;have hC2:=A6Y (A2J s (s.getD q 0) n) n h1 h12 (by rw [A5m]; exact hs) hsc;clear hsc hdb;have hsl: ∀i,i≤n-> ∀v,(A2J s (s.getD q 0) i).getD v 0=if v<i then s.getD v 0-s.getD q 0 else s.getD v 0:=fun i hi v=>A6Z s _ v i (by omega)
 have hnl:=fun i=>A5m s (s.getD q 0) i;rw [hs] at hnl;have hn0:A2J s (s.getD q 0) 0=s:=rfl;have hns: ∀i,(A2J s (s.getD q 0) i).set i ((A2J s (s.getD q 0) i).getD i 0-s.getD q 0)=A2J s (s.getD q 0) (i+1):=fun i=>rfl;generalize s.getD q 0=c at*;refine ACallH.of_body Tryz.func119 rfl (by kernel_rfl) ?_;simp only [entry,Tryz.ntmps119,List.length_cons,List.length_nil,Nat.reduceAdd,Nat.reduceSub,List.replicate_succ,List.replicate_zero,List.cons_append,List.nil_append];refine zJ (stop 5) (zc @hgq (zc @hqI (zc @A12 (zc @hs (zc @XX Qv5))))) Qv5 Qv5 Qv5 ?_;refine AWp.loopS (α:=Nat) 77 (fun i=>[(0,.c (.ptr 4 0)),(5,.c (.int .i64 c)),(30,.c (.int .i64 (n:Int))),(31,.c (.int .i64 (i:Int)))]) (fun i=>[.box [.int .i64 (n:Int),.slice (A0f es) .none],.ro [.int .i64 (n:Int),.slice (A0f es)],.box (iC d),.box (iC (A2J s c i)),.roC [.tree (.int .i64 (n:Int)),.tree (.slice (A0f es)),.tree (.int .i64 (q:Int)),.ref 2 1 0 n n,.ref 3 1 0 n n,.tree (.int .i64 0)]]) (fun i=>i≤n) (fun i=>n-i) (0) (hk:=Weak.headL 5 77 [0,5,30,31] (zWs (zc @A0V (zc @A0O @A0L)))) (h0:=?_) (round:=fun i hI=>?_)
 ·exact Xj _
 ·have hi:i≤n:=hI;clear hI;by_cases hil:i<n
  ·have hiI:(i:Int)<(n:Int):=by omega
   have hg:=A5K (A1t (d:=A2J s c i) (i:=i) (by rw [hnl]; exact hil));have e1:=hsl i hi i;rw [if_neg (Nat.lt_irrefl i)] at e1;have hb:=hsb i;have hst:=A9j (A2J s c i) i ((A2J s c i).getD i 0-c);rw [hns] at hst;rw [e1] at hg hst;have hl:=hnl i;clear hC1 hC2 hsl hns hsb hnl e1;generalize hn1:A2J s c (i+1)=N1 at*;generalize hn2:A2J s c i=N0 at*;generalize s.getD i 0=x at*;refine zR (zc @hiI (zc @hg (zc @hst (zc @A12 (zc @hl (zc @XX Qv5)))))) Qv5 Qv5 ?_;refine ⟨i+1,Weak.headF 5 77 [0,5,30,31] (zc @hn1 Qv5) (zWs (zc @A0V (zc @A0O @A0L))),?_,?_⟩
   ·exact hil
   ·omega
  ·have hnl2: ¬(i:Int)<(n:Int):=by omega
   have ei:i=n:=by omega
   rw [ei];rw [ei] at hnl2;have hl:=hnl n;clear hsl hns hsb hnl;generalize A2J s c n=N at*;have hbi: ∀(H:List Blk) (k:IntKind) (x:Int),A0d H (.int k x)=some (.int k x):=fun _ _ _=>rfl;have hb2:A0d [.box [.int .i64 (n:Int),.slice (A0f es) .none],.ro [.int .i64 (n:Int),.slice (A0f es)],.box (iC d),.box (iC N),.roC [.tree (.int .i64 (n:Int)),.tree (.slice (A0f es)),.tree (.int .i64 (q:Int)),.ref 2 1 0 n n,.ref 3 1 0 n n,.tree (.int .i64 0)]] (.ref 2 1 0 n n)=some (.slice (A0l d)):=B0T hd rfl;have hb3:A0d [.box [.int .i64 (n:Int),.slice (A0f es) .none],.ro [.int .i64 (n:Int),.slice (A0f es)],.box (iC d),.box (iC N),.roC [.tree (.int .i64 (n:Int)),.tree (.slice (A0f es)),.tree (.int .i64 (q:Int)),.ref 2 1 0 n n,.ref 3 1 0 n n,.tree (.int .i64 0)]] (.ref 3 1 0 n n)=some (.slice (A0l N)):=B0T hl rfl;have hD1:ACallH Tryz.prog 63 [.box [.int .i64 (n:Int),.slice (A0f es) .none],.ro [.int .i64 (n:Int),.slice (A0f es)],.box (iC d),.box (iC N),.roC [.tree (.int .i64 (n:Int)),.tree (.slice (A0f es)),.tree (.int .i64 (q:Int)),.ref 2 1 0 n n,.ref 3 1 0 n n,.tree (.int .i64 0)]] [.c (.ref 2 1 0 n n),.c (.int .i64 (n:Int))] [.box [.int .i64 (n:Int),.slice (A0f es) .none],.ro [.int .i64 (n:Int),.slice (A0f es)],.box (iC d),.box (iC N),.roC [.tree (.int .i64 (n:Int)),.tree (.slice (A0f es)),.tree (.int .i64 (q:Int)),.ref 2 1 0 n n,.ref 3 1 0 n n,.tree (.int .i64 0)]] (.c (.int .i64 0)):=hC1.hb (by simp [toT,A0p,hb2,hbi,A0k,A0j]) rfl;have hD2:ACallH Tryz.prog 63 [.box [.int .i64 (n:Int),.slice (A0f es) .none],.ro [.int .i64 (n:Int),.slice (A0f es)],.box (iC d),.box (iC N),.roC [.tree (.int .i64 (n:Int)),.tree (.slice (A0f es)),.tree (.int .i64 (q:Int)),.ref 2 1 0 n n,.ref 3 1 0 n n,.tree (.int .i64 0)]] [.c (.ref 3 1 0 n n),.c (.int .i64 (n:Int))] [.box [.int .i64 (n:Int),.slice (A0f es) .none],.ro [.int .i64 (n:Int),.slice (A0f es)],.box (iC d),.box (iC N),.roC [.tree (.int .i64 (n:Int)),.tree (.slice (A0f es)),.tree (.int .i64 (q:Int)),.ref 2 1 0 n n,.ref 3 1 0 n n,.tree (.int .i64 0)]] (.c (.int .i64 0)):=hC2.hb (by simp [toT,A0p,hb3,hbi,A0k,A0j]) rfl;refine zJ Qv5 (zc @hnl2 (zc @A12 (zc @hl Qv5))) Qv5 (zc hD1 (zc hD2 Qv5)) Qv5 ?_;simp [A4Q,A2f,A0o,A2e,Tryz.results119]
def B3M (l:List Int) (hne:l≠[]) (hl:l.length<2^30):ACallN Tryz.prog 157 [A0k l] 1 (A0l l):=by
 have hrn:A0l l≠[]:=by simpa [A0l] using hne
 have hrl:(A0l l).length=l.length:=A0e l;have hrk: ∀r,r∈A0l l->r.length=1:=fun r hr=>A1c hr;have hrf: ∀r,r∈A0l l->A1b r=true:=fun r hr=>by obtain ⟨x,_,rfl⟩:=QY.1 hr; rfl
 refine ACallN.of_body Tryz.func157 rfl (by kernel_rfl) hrk (by decide) hrn hrf ?_;simp only [entry,Tryz.ntmps157,A0k,ofT,A3v,A0v,XY,ZQ,List.length_cons,List.length_nil,Nat.reduceAdd,Nat.reduceSub,List.replicate_succ,List.replicate_zero,List.cons_append,List.nil_append];generalize A0l l=rows at*;refine zMc Qv5 (zc @hrl Qv5) Qv5 Qv5 (zc hrn (zc @hrk Qv5)) (ed fun hp hpc=>?_);simp [C6v,Tryz.results157]
def C3B (n q:Nat) (es:List E) (d:List Int) (h1:1≤n) (h12:n≤12) (hd:d.length=n):
  ACallH Tryz.prog 116 [.box [.int .i64 (n:Int),.slice (A0f es) .none]] [ofT (tG ⟨(n:Int),es⟩),.c (.int .i64 (q:Int)),.c (.slice (A0l d) .none)] [.box [.int .i64 (n:Int),.slice (A0f es) .none],.ro [.int .i64 (n:Int),.slice (A0f es)],.box (iC d),.box (iC (List.replicate n 0)),.box [.int .i64 (n:Int),.slice (A0f es) .none,.int .i64 (q:Int),.ref 2 1 0 n n,.ref 3 1 0 n n,.int .i64 0]] (.c (.ptr 4 0)):=by
 have hdn:d≠[]:=by intro e; rw [e] at hd; simp at hd; omega
 have hC:ACallH Tryz.prog 157 [.box [.int .i64 (n:Int),.slice (A0f es) .none],.ro [.int .i64 (n:Int),.slice (A0f es)]] [.c (.slice (A0l d) .none)] [.box [.int .i64 (n:Int),.slice (A0f es) .none],.ro [.int .i64 (n:Int),.slice (A0f es)],.box (iC d)] (.c (.ref 2 1 0 n n)):=by
  have:=(B3M d hdn (by omega)).h (H:=[.box [.int .i64 (n:Int),.slice (A0f es) .none],.ro [.int .i64 (n:Int),.slice (A0f es)]]) (args:=[.c (.slice (A0l d) .none)]) (by with_unfolding_all rfl);rw [A53,A0e,hd] at this;exact this
 have hC2:ACallH Tryz.prog 157 [.box [.int .i64 (n:Int),.slice (A0f es) .none],.ro [.int .i64 (n:Int),.slice (A0f es)],.box (iC (List.replicate n 0))] [.c (.slice (A0l d) .none)] [.box [.int .i64 (n:Int),.slice (A0f es) .none],.ro [.int .i64 (n:Int),.slice (A0f es)],.box (iC (List.replicate n 0)),.box (iC d)] (.c (.ref 3 1 0 n n)):=by
  have:=(B3M d hdn (by omega)).h (H:=[.box [.int .i64 (n:Int),.slice (A0f es) .none],.ro [.int .i64 (n:Int),.slice (A0f es)],.box (iC (List.replicate n 0))]) (args:=[.c (.slice (A0l d) .none)]) (by with_unfolding_all rfl);rw [A53,A0e,hd] at this;exact this
 have hsw: ∀l:List Int,(iC l).mapM (A9b 2 3)=some (iC l):=fun l=>by
  induction l with
  | nil=>rfl
  | cons x l ih=>
   unfold iC at ih ⊢;rw [XY,JY,ih]; rfl
 simp only [tG,ofT,A3v,A0v,XY,ZQ];refine ACallE.swapTo (H2:=[.box [.int .i64 (n:Int),.slice (A0f es) .none],.ro [.int .i64 (n:Int),.slice (A0f es)],.box (iC (List.replicate n 0)),.box (iC d),.box [.int .i64 (n:Int),.slice (A0f es) .none,.int .i64 (q:Int),.ref 3 1 0 n n,.ref 2 1 0 n n,.int .i64 0]]) (c2:= .ptr 4 0) ?_ 2 3 (by show 1≤2; decide) (by show 1≤3; decide) (by show 2<5; decide) (by show 3<5; decide) rfl (fun id hid=> ?_) rfl
 ·refine ACallE.of_body Tryz.func116 rfl (by kernel_rfl) ?_;simp only [entry,Tryz.ntmps116,List.length_cons,List.length_nil,Nat.reduceAdd,Nat.reduceSub,List.replicate_succ,List.replicate_zero,List.cons_append,List.nil_append];refine zJ (stop 1) trivial trivial trivial trivial ?_;refine AWp.freezeP 3 1 rfl rfl (ts:=[.int .i64 (n:Int),.slice (A0f es)]) rfl ?_;simp only [List.set_cons_succ,List.set_cons_zero];refine AWp.seq_draw2c (wd:= .loud) 1 3 3 6 (by decide+kernel) (fun K hK=> ?_) (fun K hK=> ?_)
  ·
   repeat' (first|((refine zT ?_;intro K' hK')<;>((try simp+contextual only [go_sem,A1R,Int.toNat_natCast,Wj,XX]);(repeat' first|(with_reducible refine hK' _ _ ?_;clear hK' K')|((with_reducible first|refine ⟨_,_,hC,?_⟩|refine ⟨_,hC,?_⟩);try simp+contextual only [go_sem,A1R,Int.toNat_natCast,Wj,XX])|exact zY|with_reducible refine Qv4 ?_ ?_|(with_reducible intro hpath;try exact zP)|(refine hK' _ _ ?_;clear hK' K')|fail);try refine zS ?_))|(refine zE ?_;refine hK _ _ ?_;clear hK K)|refine zA ?_|fail)
   simp [C4D,A2f,A0o,A2e,Tryz.results116]
  ·
   simp only [C4E,C6f,List.take_succ_cons,List.take_zero,Zy,Yq,List.cons_append,List.nil_append,Nat.reduceMul]
   repeat' (first|((refine zT ?_;intro K' hK')<;>((try simp+contextual only [go_sem,A1R,Int.toNat_natCast,Wj,XX]);(repeat' first|(with_reducible refine hK' _ _ ?_;clear hK' K')|((with_reducible first|refine ⟨_,_,hC2,?_⟩|refine ⟨_,hC2,?_⟩);try simp+contextual only [go_sem,A1R,Int.toNat_natCast,Wj,XX])|exact zY|with_reducible refine Qv4 ?_ ?_|(with_reducible intro hpath;try exact zP)|(refine hK' _ _ ?_;clear hK' K')|fail);try refine zS ?_))|(refine zE ?_;refine hK _ _ ?_;clear hK K)|refine zA ?_|fail)
   simp [C4D,A2f,A0o,A2e,Tryz.results116]
 ·simp only [List.length_cons,List.length_nil,Nat.reduceAdd] at hid
  match id,hid with
  | 0,_=>exact .inl ⟨_,_,rfl,rfl,rfl⟩
  | 1,_=>exact .inr ⟨_,rfl,rfl⟩
  | 2,_=>exact .inl ⟨_,_,rfl,hsw _,rfl⟩
  | 3,_=>exact .inl ⟨_,_,rfl,hsw _,rfl⟩
  | 4,_=>exact .inl ⟨_,_,rfl,rfl,rfl⟩
def C14 (n q:Nat) (es:List E) (d:List Int) (hq:q<n) (hd:d.length=n) (h1:1≤n) (h12:n≤12) (hl:es.length<2^30) (hc:checkG ⟨(n:Int),es⟩=0) (hcc:connB ⟨(n:Int),es⟩=true) (hb:bndL 1048576 d):ACall Tryz.prog 115 [tG ⟨(n:Int),es⟩,A0j q,A0k d] (A0j 0):=by
 have hC:ACall Tryz.prog 129 [tG ⟨(n:Int),es⟩] (.tup [A0q true,A0j 0]):=by
  have:=A3E ⟨(n:Int),es⟩ hl;rw [hc,hcc] at this;exact this
 have hChk:=A6Y d n h1 h12 hd hb;have h0: ¬((q:Int)<0):=by omega
 have h2: ¬((q:Int)≥(n:Int)):=by omega
 refine ACall.of_body Tryz.func115 rfl (by kernel_rfl) ?_;simp only [entry,Tryz.ntmps115,tG,A0j,A0k];refine zU ?_;refine zR (zc @h0 (zc @h2 Qv5)) (zc hC (zc hChk Qv5)) Qv5 ?_;simp [A0s,A0r,Blk.cells,ty,Tryz.results115,A0o,A0p,toT,A0d,A0b,A0c,A0a,A0j]
section
variable {n:Nat} {es:List E}
end
structure Gok (n:Nat) (es:List E):Prop where
 h1:1≤n
 h12:n≤12
 hl:es.length≤40
 hE:EsOk n es
 hm1: ∀e,e∈es->1≤e.m
 hM:Mult n (mulE es)
 hc:checkG ⟨(n:Int),es⟩=0
 hcc:connB ⟨(n:Int),es⟩=true
structure Dok (n:Nat) (es:List E) (d:List Int):Prop where
 len:d.length=n
 bnd: ∃B C P:Int,0≤B∧bndL B d∧B≤C∧(∀q far,q<n->BFq es n q far []->powF (levF es far) B (n-1)≤C)∧sumR (fun v=>max 0 (d.getD v 0)) n≤P∧C+P≤1048576∧C+n*P≤1048576
def C4p (ls:List (List Int)) (n:Nat) (h1:1≤n) (h12:n≤12) (hll:ls.length<2^20) (hls: ∀d,d∈ls->d.length=n∧bndL 1048576 d):ACall Tryz.prog 112 [.t (.slice (A0n ls))] (A0j 0):=by
 refine ACall.of_body Tryz.func112 rfl (by kernel_rfl) ?_;simp only [entry,Tryz.ntmps112,A0j];refine zU ?_;refine zJ (stop 2) (zc @A0i Qv5) Qv5 Qv5 Qv5 ?_;refine AWp.loopS (α:=Nat) 36 (fun i=>[(0,.c (.slice (A0n ls) .none)),(8,.c (.slice (A0n ls) .none)),(9,.c (.int .i64 (ls.length:Int))),(10,.c (.int .i64 (i:Int)))]) (fun i=>[]) (fun i=>i≤ls.length) (fun i=>ls.length-i) (0) (hk:=Weak.headL 0 36 [0,8,9,10] (zWs (zc @A0V (zc @A0O @A0L)))) (h0:=?_) (round:=fun i hI=>?_)
 ·exact Xj _
 ·have hi:i≤ls.length:=hI;clear hI;by_cases hil:i<ls.length
  ·have hiI:(i:Int)<(ls.length:Int):=by omega
   have hge:=Qq hil;have hg:=A0D hge;obtain ⟨d1,d2⟩:=hls _ (Qv hge);generalize ls[i]=d at*;have hC:=A6Y d n h1 h12 d1 d2;refine zR (zc @hiI (zc @hg (zc @A0i (zc @A0e (zc @d1 (zc @XX Qv5)))))) (zc hC Qv5) Qv5 ?_;refine ⟨i+1,Weak.headN 0 36 [0,8,9,10] (zWs (zc @A0V (zc @A0O @A0L))),?_,?_⟩
   ·exact hil
   ·omega
  ·have hnl: ¬(i:Int)<(ls.length:Int):=by omega
   refine zJ (stop 9) (zc @hnl (zc @A0i Qv5)) Qv5 Qv5 Qv5 ?_;refine AWp.loopS (α:=Nat) 36 (fun j=>[(0,.c (.slice (A0n ls) .none)),(22,.c (.slice (A0n ls) .none)),(23,.c (.int .i64 (ls.length:Int))),(24,.c (.int .i64 (j:Int)))]) (fun j=>[]) (fun j=>j≤ls.length) (fun j=>ls.length-j) (0) (hk:=Weak.headL 0 36 [0,22,23,24] (zWs (zc @A0V (zc @A0O @A0L)))) (h0:=?_) (round:=fun j hI=>?_)
   ·exact Xj _
   ·have hj:j≤ls.length:=hI;clear hI;by_cases hjl:j<ls.length
    ·have hjI:(j:Int)<(ls.length:Int):=by omega
     have h0I:(0:Int)<(ls.length:Int):=by omega
     have hge:=Qq hjl;have hg:=A0D hge;have hge0:=Qq (show 0<ls.length by omega);have hg0:=A0D hge0;obtain ⟨d1,d2⟩:=hls _ (Qv hge);obtain ⟨d3,d4⟩:=hls _ (Qv hge0);generalize ls[j]=d at*;generalize ls[0]=d0 at*;refine zR (zc @hjI (zc @h0I (zc @hg (zc @hg0 (zc @A0i (zc @A0e (zc @d1 (zc @d3 (zc @Int.toNat_zero (zc @XX Qv5)))))))))) Qv5 Qv5 ?_;refine ⟨j+1,Weak.headN 0 36 [0,22,23,24] (zWs (zc @A0V (zc @A0O @A0L))),?_,?_⟩
     ·exact hjl
     ·omega
    ·have hnl2: ¬(j:Int)<(ls.length:Int):=by omega
     refine zR (zc @hnl2 Qv5) Qv5 Qv5 ?_;simp [A0s,A0r,Blk.cells,ty,Tryz.results112,A0o,A0p,toT,A0d,A0b,A0c,A0a,A0j]
def B67 {d:List Int} {K:Int} (h:bndL K d): ∀i:Nat,-(K*i)≤sumR (fun v=>d.getD v 0) i∧sumR (fun v=>d.getD v 0) i≤K*i
 | 0=>by simp [sumR]
 | i+1=>by
  have h1:=B67 h i;have h2:=h i;have e:K*((i+1:Nat):Int)=K*i+K:=by rw [Int.natCast_add,Int.mul_add]; simp
  simp only [sumR];omega
def C1N (d:List Int) (n:Nat):Int:=sumR (fun v=>d.getD v 0) n
def B7Y (d:List Int) (n:Nat) (h1:1≤n) (h12:n≤12) (hd:d.length=n) (hb:bndL 1048576 d):ACall Tryz.prog 71 [A0k d] (.tup [A0j (C1N d n),A0j 0]):=by
 have hO:=C4p [d] n h1 h12 (by show 1<2^20; decide) (fun x hx=>by rw [XQ] at hx; subst hx; exact ⟨hd,hb⟩);have e0:C1N d 0=0:=rfl;simp only [A0n,XY,ZQ] at hO;refine ACall.of_body Tryz.func71 rfl (by kernel_rfl) ?_;simp only [entry,Tryz.ntmps71,A0k];refine zU ?_;refine zMc (stop 6) (zc @A0e (zc @hd Qv5)) (zc hO Qv5) Qv5 Qv5 (ed fun hp hpc=>?_);refine AWp.loopS (α:=Nat) 25 (fun i=>[(5,.c (.int .i64 (C1N d i))),(14,.c (.slice (A0l d) .none)),(15,.c (.int .i64 (n:Int))),(16,.c (.int .i64 (i:Int)))]) (fun i=>[]) (fun i=>i≤n) (fun i=>n-i) (0) (hk:=Weak.headL 0 25 [5,14,15,16] (zWs (zc @A0V (zc @A0O @A0L)))) (h0:=?_) (round:=fun i hI=>?_)
 ·exact Xj _
 ·have hi:i≤n:=hI;clear hI;by_cases hil:i<n
  ·have hiI:(i:Int)<(n:Int):=by omega
   have hg:=A0t (A1t (d:=d) (i:=i) (by omega));have hx:=hb i;have hs: -(1048576*i)≤C1N d i∧C1N d i≤1048576*i:=B67 hb i;have hnx:C1N d (i+1)=C1N d i+d.getD i 0:=rfl;generalize hN1:C1N d (i+1)=N1 at*;generalize C1N d i=N0 at*;generalize d.getD i 0=x at*;refine zR (zc @hiI (zc @hg (zc @A0e (zc @hd (zc @XX Qv5))))) Qv5 Qv5 ?_;refine ⟨i+1,Weak.headF 0 25 [5,14,15,16] (zc @hN1 (zc @hnx Qv5)) (zWs (zc @A0V (zc @A0O @A0L))),?_,?_⟩
   ·exact hil
   ·omega
  ·have hnl: ¬(i:Int)<(n:Int):=by omega
   have ei:i=n:=by omega
   rw [ei];rw [ei] at hnl;refine zR (zc @hnl Qv5) Qv5 Qv5 ?_;simp [A0s,A0r,Blk.cells,ty,Tryz.results71,A0o,A0p,toT,A0d,A0b,A0c,A0a,A0j]
def B2r (a b:List Int) (n i:Nat):List Int:=(List.range n).map fun v=>if v<i then a.getD v 0+b.getD v 0 else 0
def A84 (a b:List Int) (n i:Nat):(B2r a b n i).length=n:=by simp [B2r]
def B68 (a b:List Int) (n i v:Nat):(B2r a b n i)[v]? =if v<n then some (if v<i then a.getD v 0+b.getD v 0 else 0) else none:=by
 unfold B2r;rw [QQ];by_cases h:v<n
 ·rw [if_pos h,Yv h]; rfl
 ·rw [if_neg h,Xq (by simpa using h)]; rfl
def C3C (a b:List Int) {n i:Nat} (hi:i<n):(B2r a b n i).set i (a.getD i 0+b.getD i 0)=B2r a b n (i+1):=by
 apply Zq;intro j;rw [Qq0,A84,B68,B68];by_cases e:i=j
 ·subst e;rw [if_pos rfl,if_pos hi,if_pos hi,if_pos (by omega)]
 ·rw [if_neg e];by_cases h:j<n
  ·rw [if_pos h,if_pos h];by_cases h2:j<i
   ·rw [if_pos h2,if_pos (by omega)]
   ·rw [if_neg h2,if_neg (by omega)]
  ·rw [if_neg h,if_neg h]
def C15 (a b:List Int) (n:Nat):B2r a b n 0=List.replicate n 0:=by
 apply VJ
 ·simp [B2r]
 ·intro i h1 h2; simp [B2r]
def C5U (x y:Int) (h: -(2^40)≤x∧x≤2^40) (h': -(2^40)≤y∧y≤2^40):ACall Tryz.prog 114 [A0j x,A0j y] (A0j (x+y)):=by
 refine ACall.of_body Tryz.func114 rfl (by kernel_rfl) ?_;simp only [entry,Tryz.ntmps114,A0j];refine zU ?_;refine zR Qv5 Qv5 Qv5 ?_;simp [A0s,A0r,Blk.cells,ty,Tryz.results114,A0o,A0p,toT,A0d,A0b,A0c,A0a,A0j]
def C16 (a b:List Int) (n:Nat) (h1:1≤n) (h12:n≤12) (ha:a.length=n) (hb:b.length=n) (ha1:bndL 1048576 a) (hb1:bndL 1048576 b) (hs: ∀v,v<n-> -1048576≤a.getD v 0+b.getD v 0∧a.getD v 0+b.getD v 0≤1048576):
  ACallH Tryz.prog 113 [] [.c (.slice (A0l a) .none),.c (.slice (A0l b) .none),.c (.fn 114 [])] [.box (iC (B2r a b n n))] (.tup [.c (.ref 0 1 0 n n),.c (.int .i64 0)]):=by
 have hO:=C4p [a,b] n h1 h12 (by show 2<2^20; decide) (fun x hx=>by
  simp only [QV,XJ,or_false] at hx;rcases hx with rfl | rfl
  ·exact ⟨ha,ha1⟩
  ·exact ⟨hb,hb1⟩)
 simp only [A0n,XY,ZQ] at hO;have hnI:(0:Int)≤(n:Int):=by omega
 refine ACallH.of_body Tryz.func113 rfl (by kernel_rfl) ?_;simp only [entry,Tryz.ntmps113,List.length_cons,List.length_nil,Nat.reduceAdd,Nat.reduceSub,List.replicate_succ,List.replicate_zero,List.cons_append,List.nil_append];refine zMc (stop 6) (zc @A0e (zc @ha (zc @A1R (zc @A12 (zc @Yj.{0} Qv5))))) (zc hO Qv5) Qv5 Qv5 (ed fun hp hpc=>?_);rw [<-C15 a b n];refine AWp.loopS (α:=Nat) 47 (fun i=>[(0,.c (.slice (A0l a) .none)),(1,.c (.slice (A0l b) .none)),(2,.c (.fn 114 [])),(9,.c (.ref 0 1 0 n n)),(22,.c (.int .i64 (n:Int))),(23,.c (.int .i64 (i:Int)))]) (fun i=>[.box (iC (B2r a b n i))]) (fun i=>i≤n) (fun i=>n-i) (0) (hk:=Weak.headL 1 47 [0,1,2,9,22,23] (zWs (zc @A0V (zc @A0O @A0L)))) (h0:=?_) (round:=fun i hI=>?_)
 ·exact Xj _
 ·have hi:i≤n:=hI;clear hI;by_cases hil:i<n
  ·have hiI:(i:Int)<(n:Int):=by omega
   have ga:=A0t (A1t (d:=a) (i:=i) (by omega));have gb:=A0t (A1t (d:=b) (i:=i) (by omega));have hF:=C5U (a.getD i 0) (b.getD i 0) (by have:=ha1 i; omega) (by have:=hb1 i; omega);have hw:=B1k (a.getD i 0+b.getD i 0) (hs i hil);have hns:=C3C a b hil;have hnl:=A84 a b n i;have hst:=A9j (B2r a b n i) i (a.getD i 0+b.getD i 0);rw [hns] at hst;have hl1:=A84 a b n (i+1);have hg2:(iC (B2r a b n (i+1)))[i]? =some (.int .i64 (a.getD i 0+b.getD i 0)):=by rw [<-hst]; exact QX (by rw [A12,hnl]; exact hil)
   clear hns hs ha1 hb1 hO;generalize hn1:B2r a b n (i+1)=N1 at*;generalize B2r a b n i=N0 at*;generalize a.getD i 0=x at*;generalize b.getD i 0=y at*;refine zR (zc @hiI (zc @ga (zc @gb (zc @hst (zc @hg2 (zc @hnl (zc @hl1 (zc @A12 (zc @A0e (zc @ha (zc @hb (zc @XX Qv5)))))))))))) (zc hF (zc hw Qv5)) Qv5 ?_;refine ⟨i+1,Weak.headF 1 47 [0,1,2,9,22,23] (zc @hn1 Qv5) (zWs (zc @A0V (zc @A0O @A0L))),?_,?_⟩
   ·exact hil
   ·omega
  ·have hnl: ¬(i:Int)<(n:Int):=by omega
   have ei:i=n:=by omega
   rw [ei];rw [ei] at hnl;refine zR (zc @hnl Qv5) Qv5 Qv5 ?_;simp [A4Q,A2f,A0o,A2e,Tryz.results113]
def C7j (a b:List Int) (n:Nat) (h1:1≤n) (h12:n≤12) (ha:a.length=n) (hb:b.length=n) (ha1:bndL 1048576 a) (hb1:bndL 1048576 b) (hs: ∀v,v<n-> -1048576≤a.getD v 0+b.getD v 0∧a.getD v 0+b.getD v 0≤1048576):
  ACall Tryz.prog 72 [A0k a,A0k b] (.tup [A0k (B2r a b n n),A0j 0]):=by
 have hE:=C16 a b n h1 h12 ha hb ha1 hb1 hs;have hl:=A84 a b n n;generalize B2r a b n n=d at*;have hbi: ∀(H:List Blk) (k:IntKind) (x:Int),A0d H (.int k x)=some (.int k x):=fun _ _ _=>rfl;have hr0:A0d [.box (iC d)] (.ref 0 1 0 n n)=some (.slice (A0l d)):=B0T hl rfl;refine ACall.of_body Tryz.func72 rfl (by kernel_rfl) ?_;simp only [entry,Tryz.ntmps72,A0k];refine zU ?_;refine zJ Qv5 Qv5 Qv5 (zc hE Qv5) Qv5 ?_;simp [A0s,A0r,Tryz.results72,A0o,A0p,toT,hr0,hbi,A0k,A0j]
end Go.Proofs.YtdbdfkohpjefjaaGreat
