/- A part of the proof. -/
import Derived.Test.YtdbdfkohpjefjaaGreatPart40
set_option linter.all false
set_option maxHeartbeats 4000000
set_option maxRecDepth 100000
namespace Go.Proofs.YtdbdfkohpjefjaaGreat
open Go.Sp
def A6r (l:List Int):Nat->Int
 | 0=>l.getD 0 0
 | k+1=>max (A6r l k) (l.getD (k+1) 0)
theorem B4H (l:List Int): ∀k i,i≤k->l.getD i 0≤A6r l k
 | 0,i,h=>by rw [show i=0 by omega]; exact Qz7 _
 | k+1,i,h=>by
  unfold A6r;by_cases e:i=k+1
  ·subst e; omega
  ·have:=B4H l k i (by omega); omega
theorem B4I (l:List Int): ∀k,∃i,i≤k∧A6r l k=l.getD i 0
 | 0=>⟨0,QQ _,rfl⟩
 | k+1=>by
  obtain ⟨i,h1,h2⟩:=B4I l k;unfold A6r;rcases Int.le_total (A6r l k) (l.getD (k+1) 0) with h | h
  ·exact ⟨k+1,QQ _,by omega⟩
  ·exact ⟨i,by omega,by omega⟩
theorem C4u (l:List Int) (hne:l≠[]) (hl:l.length<2^40):ACall Tryz.prog 160 [A0n l] (A0m (A6r l (l.length-1))):=by
 have hp:0<l.length:=Wj.2 hne;have e0:=Qq hp;have r0:=A0w e0;have d0:l.getD 0 0=l[0]:=by rw [Qz,e0]; rfl
 generalize l[0]=x0 at*;refine ACall.of_body Tryz.func160 rfl (by kernel_rfl) ?_;simp only [entry,Tryz.ntmps160,A0n];refine zU ?_;refine zR (zc @A0e (zc @r0 (zc @Int.toNat_zero Qw8))) Qw8 Qw8 ?_;have hx0:x0=A6r l 0:=d0.symm;rw [hx0];refine AWp.loopS (α:=Nat) 25 (fun i=>[(0,.c (.slice (A0o l) .none)),(3,.c (.int .i64 (A6r l i))),(4,.c (.int .i64 ((i:Int)+1)))]) (fun i=>[]) (fun i=>i<l.length) (fun i=>l.length-i) (0) (hk:=Weak.headL 0 25 [0,3,4] (zV3 @A1d @A0E @A0F)) (h0:=?_) (round:=fun i hI=>?_)
 ·exact hp
 ·by_cases hlt:i+1<l.length
  ·have hltI:(i:Int)+1<l.length:=by omega
   have e1:=Qq hlt;have r1:=A0w e1;have d1:l.getD (i+1) 0=l[i+1]:=by rw [Qz,e1]; rfl
   have hnx:A6r l (i+1)=max (A6r l i) (l.getD (i+1) 0):=rfl;rw [d1] at hnx;have ht:((i:Int)+1).toNat=i+1:=by omega
   generalize l[i+1]=y at*;generalize A6r l i=m at*;refine zR (zc @hltI (zc @A0e (zc @r1 (zc @ht Qw8)))) Qw8 Qw8 ?_;refine ⟨i+1,Weak.headF 0 25 [0,3,4] (zc @hnx Qw8) (zV3 @A1d @A0E @A0F),?_,?_⟩
   ·omega
   ·omega
  ·have ei:A6r l (l.length-1)=A6r l i:=by congr 1; omega
   have hnl: ¬((i:Int)+1<l.length):=by omega
   rw [ei];refine zR (zc @hnl (zc @A0e Qw8)) Qw8 Qw8 ?_;simp [A0z,A0y,Blk.cells,ty,Tryz.results160,A0t,A0u,toT,A0d,A0b,A0c,A0a,A0m]
theorem B2p (n q:Nat) (es:List E) (d s:List Int) (h1:1≤n) (h12:n≤12) (hq:q<n) (hd:d.length=n) (hs:s.length=n) (hl:es.length≤40) (hm: ∀e,e∈es->(0≤e.a∧e.a<n)∧(0≤e.b∧e.b<n)∧0≤e.m∧e.m≤50) (B:List Int) (pB:Nat) (hB:DEnd es (A7s n q,[q],0) B pB) (hBl:B.length=n):
  ACallH Tryz.prog 158 [.box [.int .i64 (n:Int),.slice (A0f es) .none],.ro [.int .i64 (n:Int),.slice (A0f es)],.box (iC d),.box (iC s),.roC [.tree (.int .i64 (n:Int)),.tree (.slice (A0f es)),.tree (.int .i64 (q:Int)),.ref 2 1 0 n n,.ref 3 1 0 n n,.tree (.int .i64 0)]] [.c (.ptr 4 0)] [.box [.int .i64 (n:Int),.slice (A0f es) .none],.ro [.int .i64 (n:Int),.slice (A0f es)],.box (iC d),.box (iC s),.roC [.tree (.int .i64 (n:Int)),.tree (.slice (A0f es)),.tree (.int .i64 (q:Int)),.ref 2 1 0 n n,.ref 3 1 0 n n,.tree (.int .i64 0)]] (.c (.slice (A0o B) .none)):=
 ((B0M n q es d s h1 h12 hq hd hs hl hm B pB hB hBl).trim (by simp) (show 5<6 by decide) (fun b hb=>by
  rcases XZ.1 hb with hb | hb
  ·exact B2j n q es d s (m:=6) (by decide) b hb
  ·rw [XJ] at hb; subst hb; exact A1d)).data (QQ _) (B2j n q es d s (m:=5) (by decide)) (B4b B) (by rw [A0e,hBl]) (QQ _) (fun r hr=>A1s hr) (B1B B)
def A6s (far:List Int) (k:Int) (n i:Nat):List Bool:=(List.range n).map fun v=>decide (v<i)&&decide (far.getD v 0<k)
theorem A8L (far:List Int) (k:Int) (n i:Nat):(A6s far k n i).length=n:=by simp [A6s]
theorem B2q (far:List Int) (k:Int) (n i v:Nat):(A6s far k n i)[v]? =if v<n then some (decide (v<i)&&decide (far.getD v 0<k)) else none:=by
 unfold A6s;rw [QY];by_cases h:v<n
 ·rw [if_pos h,Yw h]; rfl
 ·rw [if_neg h,QV (by simpa using h)]; rfl
theorem B9j (far:List Int) (k:Int) {n i:Nat} (hi:i<n):(A6s far k n i).set i (decide (far.getD i 0<k))=A6s far k n (i+1):=by
 apply XY;intro j;rw [Qw1,A8L,B2q,B2q];by_cases e:i=j
 ·subst e;rw [if_pos rfl,if_pos hi,if_pos hi,decide_eq_true (show i<i+1 by omega)]; rfl
 ·rw [if_neg e];by_cases h:j<n
  ·rw [if_pos h,if_pos h,decide_eq_decide.2 (show j<i↔j<i+1 by omega)]
  ·rw [if_neg h,if_neg h]
theorem B6g (far:List Int) (k:Int) (n:Nat):A6s far k n 0=List.replicate n false:=by
 apply Qz5
 ·simp [A6s]
 ·intro i h1 h2; simp [A6s]
set_option maxHeartbeats 1000000
def jnS (es:List E) (A:List Bool) (v:Nat):Int:=joinL (fun u=> !A.getD u.toNat false) (lnkL es v)
def minS (es:List E) (d:List Int) (A:List Bool):Nat->Int
 | 0=>0
 | v+1=>if A.getD v false=true∧0<jnS es A v then (if minS es d A v=0∨(d.getD v 0).tdiv (jnS es A v)<minS es d A v then (d.getD v 0).tdiv (jnS es A v) else minS es d A v) else minS es d A v
def A9X (n:Nat) (B:List Bool):List Bool:=B0W B n n
def C3i (n:Nat) (es:List E) (B:List Bool) (w:List Int×List Int):List Int×List Int:=
 (C2C es (minS es w.1 (A9X n B) n) (A9X n B) n w.1,C0M (minS es w.1 (A9X n B) n) (A9X n B) n w.2)
inductive SEnd (es:List E) (n q:Nat):List Int×List Int->List Int×List Int->List Bool->Prop where
 | stop {w:List Int×List Int} {B:List Bool}:BEnd es w.1 n (A8E n q) B->B.length=n->A6o B n=false->SEnd es n q w w B
 | go {w W:List Int×List Int} {B Z:List Bool}:BEnd es w.1 n (A8E n q) B->B.length=n->A6o B n=true->C5h es w.1 q B->(∀v,v<n->C3z es w.1 B v=false)->SEnd es n q (C3i n es B w) W Z->SEnd es n q w W Z
section
variable {n:Nat} {es:List E}
structure SInv (n:Nat) (es:List E) (q:Nat) (d0:List Int) (X Y sq:Int) (w:List Int×List Int):Prop where
 dl:w.1.length=n
 sl:w.2.length=n
 led:Led n es d0 w.1 w.2
 don: ∀v,v<n->v≠q->0≤w.1.getD v 0
 dq: -X≤w.1.getD q 0
 low: ∀v,v<n-> -Y≤w.2.getD v 0
 sq:w.2.getD q 0=sq
end
theorem B6h (n q:Nat) (es:List E) (d s:List Int) (h1:1≤n) (h12:n≤12) (hq:q<n) (hd:d.length=n) (hs:s.length=n) (hl:es.length≤40) (hm: ∀e,e∈es->(0≤e.a∧e.a<n)∧(0≤e.b∧e.b<n)∧0≤e.m∧e.m≤50) (B:List Bool) (hB:BEnd es d n (A8E n q) B) (hBl:B.length=n):
  ACallH Tryz.prog 163 [.box [.int .i64 (n:Int),.slice (A0f es) .none],.ro [.int .i64 (n:Int),.slice (A0f es)],.box (iC d),.box (iC s),.roC [.tree (.int .i64 (n:Int)),.tree (.slice (A0f es)),.tree (.int .i64 (q:Int)),.ref 2 1 0 n n,.ref 3 1 0 n n,.tree (.int .i64 0)]] [.c (.ptr 4 0)] [.box [.int .i64 (n:Int),.slice (A0f es) .none],.ro [.int .i64 (n:Int),.slice (A0f es)],.box (iC d),.box (iC s),.roC [.tree (.int .i64 (n:Int)),.tree (.slice (A0f es)),.tree (.int .i64 (q:Int)),.ref 2 1 0 n n,.ref 3 1 0 n n,.tree (.int .i64 0)]] (.tup [.c (.slice (A4f (A9X n B)) .none),.c (.bool (A6o B n))]):=by
 obtain ⟨X,hX⟩:=B31 n q es d s h1 h12 hq hd hs hl hm B hB hBl;refine hX.trim (QQ _) (fun x hx=> ?_) (B2j n q es d s (m:=5) (by decide));simp only [Qw,Qv,or_false] at hx;rcases hx with rfl | rfl<;>exact Qw6
theorem A9Y (k:Int) (h: -1048576≤k∧k≤1048576):ACall Tryz.prog 107 [A0m k] (A0v true):=by
 have h1:k≥ -1048576:=h.1;have h2:k≤1048576:=h.2;refine ACall.of_body Tryz.func107 rfl (by kernel_rfl) ?_;simp only [entry,Tryz.ntmps107,A0m];refine zU ?_;refine zR (zc @h1 (zc @h2 Qw8)) Qw8 Qw8 ?_;simp [A0z,A0y,Blk.cells,ty,Tryz.results107,A0t,A0u,toT,A0d,A0b,A0c,A0a,A0v]
theorem B2r (n:Int) (h:1≤n∧n≤12):ACall Tryz.prog 106 [A0m n] (A0m 0):=by
 have h1: ¬(n<1):=by omega
 have h2: ¬(n>12):=by omega
 refine ACall.of_body Tryz.func106 rfl (by kernel_rfl) ?_;simp only [entry,Tryz.ntmps106,A0m];refine zU ?_;refine zR (zc @h1 (zc @h2 Qw8)) Qw8 Qw8 ?_;simp [A0z,A0y,Blk.cells,ty,Tryz.results106,A0t,A0u,toT,A0d,A0b,A0c,A0a,A0m]
theorem A6t (d:List Int) (n:Nat) (h1:1≤n) (h12:n≤12) (hd:d.length=n) (hb:bndL 1048576 d):ACall Tryz.prog 63 [A0n d,A0m n] (A0m 0):=by
 have hV:=B2r n (by omega);refine ACall.of_body Tryz.func63 rfl (by kernel_rfl) ?_;simp only [entry,Tryz.ntmps63,A0n,A0m];refine zU ?_;refine zJ (stop 7) (zc @A0e (zc @hd Qw8)) (zc hV Qw8) Qw8 Qw8 ?_;refine AWp.loopS (α:=Nat) 27 (fun i=>[(17,.c (.slice (A0o d) .none)),(18,.c (.int .i64 (n:Int))),(19,.c (.int .i64 (i:Int)))]) (fun i=>[]) (fun i=>i≤n) (fun i=>n-i) (0) (hk:=Weak.headL 0 27 [17,18,19] (zV3 @A1d @A0E @A0F)) (h0:=?_) (round:=fun i hI=>?_)
 ·exact Xj _
 ·have hi:i≤n:=hI;clear hI;by_cases hil:i<n
  ·have hiI:(i:Int)<(n:Int):=by omega
   have hg:=A0w (A1j (d:=d) (i:=i) (by omega));have hw:=A9Y (d.getD i 0) (hb i);generalize d.getD i 0=x at*;refine zR (zc @hiI (zc @hg (zc @A0e (zc @hd (zc @Xk Qw8))))) (zc hw Qw8) Qw8 ?_;refine ⟨i+1,Weak.headN 0 27 [17,18,19] (zV3 @A1d @A0E @A0F),?_,?_⟩
   ·exact hil
   ·omega
  ·have hnl: ¬(i:Int)<(n:Int):=by omega
   refine zR (zc @hnl Qw8) Qw8 Qw8 ?_;simp [A0z,A0y,Blk.cells,ty,Tryz.results63,A0t,A0u,toT,A0d,A0b,A0c,A0a,A0m]
def A21 (s:List Int) (c:Int):Nat->List Int
 | 0=>s
 | i+1=>(A21 s c i).set i ((A21 s c i).getD i 0-c)
theorem A4I (s:List Int) (c:Int): ∀i,(A21 s c i).length=s.length
 | 0=>rfl
 | i+1=>by unfold A21; rw [Yx]; exact A4I s c i
theorem A6u (s:List Int) (c:Int) (v:Nat): ∀i,i≤s.length->(A21 s c i).getD v 0=if v<i then s.getD v 0-c else s.getD v 0
 | 0,_=>by rw [if_neg (by omega)]; rfl
 | i+1,hi=>by
  unfold A21;rw [A4F _ _ _ _ (by rw [A4I]; omega),A6u s c v i (by omega),A6u s c i i (by omega),if_neg (Nat.lt_irrefl i)];by_cases e:v=i
  ·subst e; rw [if_pos rfl,if_pos (by omega)]
  ·rw [if_neg e];by_cases h:v<i
   ·rw [if_pos h,if_pos (by omega)]
   ·rw [if_neg h,if_neg (by omega)]
theorem B9k (n q:Nat) (es:List E) (d s:List Int) (h1:1≤n) (h12:n≤12) (hq:q<n) (hd:d.length=n) (hs:s.length=n) (hdb:bndL 1048576 d) (hsb:bndL (2^40) s) (hsc:bndL 1048576 (A21 s (s.getD q 0) n)):
  ACallH Tryz.prog 119 [.box [.int .i64 (n:Int),.slice (A0f es) .none],.ro [.int .i64 (n:Int),.slice (A0f es)],.box (iC d),.box (iC s),.roC [.tree (.int .i64 (n:Int)),.tree (.slice (A0f es)),.tree (.int .i64 (q:Int)),.ref 2 1 0 n n,.ref 3 1 0 n n,.tree (.int .i64 0)]] [.c (.ptr 4 0)] [.box [.int .i64 (n:Int),.slice (A0f es) .none],.ro [.int .i64 (n:Int),.slice (A0f es)],.box (iC d),.box (iC (A21 s (s.getD q 0) n)),.roC [.tree (.int .i64 (n:Int)),.tree (.slice (A0f es)),.tree (.int .i64 (q:Int)),.ref 2 1 0 n n,.ref 3 1 0 n n,.tree (.int .i64 0)]] (.tup [.c (.ref 2 1 0 n n),.c (.ref 3 1 0 n n),.c (.int .i64 0)]):=by
 have hqI:(q:Int)<(n:Int):=by omega
 have hgq:=A5Y (A1j (d:=s) (i:=q) (by omega));have hqb:=hsb q;have hC1:=A6t d n h1 h12 hd hdb;have hC2:=A6t (A21 s (s.getD q 0) n) n h1 h12 (by rw [A4I]; exact hs) hsc;clear hsc hdb;have hsl: ∀i,i≤n-> ∀v,(A21 s (s.getD q 0) i).getD v 0=if v<i then s.getD v 0-s.getD q 0 else s.getD v 0:=fun i hi v=>A6u s _ v i (by omega)
 have hnl:=fun i=>A4I s (s.getD q 0) i;rw [hs] at hnl;have hn0:A21 s (s.getD q 0) 0=s:=rfl;have hns: ∀i,(A21 s (s.getD q 0) i).set i ((A21 s (s.getD q 0) i).getD i 0-s.getD q 0)=A21 s (s.getD q 0) (i+1):=fun i=>rfl;generalize s.getD q 0=c at*;refine ACallH.of_body Tryz.func119 rfl (by kernel_rfl) ?_;simp only [entry,Tryz.ntmps119,List.length_cons,List.length_nil,Nat.reduceAdd,Nat.reduceSub,List.replicate_succ,List.replicate_zero,List.cons_append,List.nil_append];refine zJ (stop 5) (zc @hgq (zc @hqI (zc @A11 (zc @hs (zc @Xk Qw8))))) Qw8 Qw8 Qw8 ?_;refine AWp.loopS (α:=Nat) 77 (fun i=>[(0,.c (.ptr 4 0)),(5,.c (.int .i64 c)),(30,.c (.int .i64 (n:Int))),(31,.c (.int .i64 (i:Int)))]) (fun i=>[.box [.int .i64 (n:Int),.slice (A0f es) .none],.ro [.int .i64 (n:Int),.slice (A0f es)],.box (iC d),.box (iC (A21 s c i)),.roC [.tree (.int .i64 (n:Int)),.tree (.slice (A0f es)),.tree (.int .i64 (q:Int)),.ref 2 1 0 n n,.ref 3 1 0 n n,.tree (.int .i64 0)]]) (fun i=>i≤n) (fun i=>n-i) (0) (hk:=Weak.headL 5 77 [0,5,30,31] (zV3 @A1d @A0E @A0F)) (h0:=?_) (round:=fun i hI=>?_)
 ·exact Xj _
 ·have hi:i≤n:=hI;clear hI;by_cases hil:i<n
  ·have hiI:(i:Int)<(n:Int):=by omega
   have hg:=A5Y (A1j (d:=A21 s c i) (i:=i) (by rw [hnl]; exact hil));have e1:=hsl i hi i;rw [if_neg (Nat.lt_irrefl i)] at e1;have hb:=hsb i;have hst:=A94 (A21 s c i) i ((A21 s c i).getD i 0-c);rw [hns] at hst;rw [e1] at hg hst;have hl:=hnl i;clear hC1 hC2 hsl hns hsb hnl e1;generalize hn1:A21 s c (i+1)=N1 at*;generalize hn2:A21 s c i=N0 at*;generalize s.getD i 0=x at*;refine zR (zc @hiI (zc @hg (zc @hst (zc @A11 (zc @hl (zc @Xk Qw8)))))) Qw8 Qw8 ?_;refine ⟨i+1,Weak.headF 5 77 [0,5,30,31] (zc @hn1 Qw8) (zV3 @A1d @A0E @A0F),?_,?_⟩
   ·exact hil
   ·omega
  ·have hnl2: ¬(i:Int)<(n:Int):=by omega
   have ei:i=n:=by omega
   rw [ei];rw [ei] at hnl2;have hl:=hnl n;clear hsl hns hsb hnl;generalize A21 s c n=N at*;have hbi: ∀(H:List Blk) (k:IntKind) (x:Int),A0d H (.int k x)=some (.int k x):=fun _ _ _=>rfl;have hb2:A0d [.box [.int .i64 (n:Int),.slice (A0f es) .none],.ro [.int .i64 (n:Int),.slice (A0f es)],.box (iC d),.box (iC N),.roC [.tree (.int .i64 (n:Int)),.tree (.slice (A0f es)),.tree (.int .i64 (q:Int)),.ref 2 1 0 n n,.ref 3 1 0 n n,.tree (.int .i64 0)]] (.ref 2 1 0 n n)=some (.slice (A0o d)):=A9M hd rfl;have hb3:A0d [.box [.int .i64 (n:Int),.slice (A0f es) .none],.ro [.int .i64 (n:Int),.slice (A0f es)],.box (iC d),.box (iC N),.roC [.tree (.int .i64 (n:Int)),.tree (.slice (A0f es)),.tree (.int .i64 (q:Int)),.ref 2 1 0 n n,.ref 3 1 0 n n,.tree (.int .i64 0)]] (.ref 3 1 0 n n)=some (.slice (A0o N)):=A9M hl rfl;have hD1:ACallH Tryz.prog 63 [.box [.int .i64 (n:Int),.slice (A0f es) .none],.ro [.int .i64 (n:Int),.slice (A0f es)],.box (iC d),.box (iC N),.roC [.tree (.int .i64 (n:Int)),.tree (.slice (A0f es)),.tree (.int .i64 (q:Int)),.ref 2 1 0 n n,.ref 3 1 0 n n,.tree (.int .i64 0)]] [.c (.ref 2 1 0 n n),.c (.int .i64 (n:Int))] [.box [.int .i64 (n:Int),.slice (A0f es) .none],.ro [.int .i64 (n:Int),.slice (A0f es)],.box (iC d),.box (iC N),.roC [.tree (.int .i64 (n:Int)),.tree (.slice (A0f es)),.tree (.int .i64 (q:Int)),.ref 2 1 0 n n,.ref 3 1 0 n n,.tree (.int .i64 0)]] (.c (.int .i64 0)):=hC1.hb (by simp [toT,A0u,hb2,hbi,A0n,A0m]) rfl;have hD2:ACallH Tryz.prog 63 [.box [.int .i64 (n:Int),.slice (A0f es) .none],.ro [.int .i64 (n:Int),.slice (A0f es)],.box (iC d),.box (iC N),.roC [.tree (.int .i64 (n:Int)),.tree (.slice (A0f es)),.tree (.int .i64 (q:Int)),.ref 2 1 0 n n,.ref 3 1 0 n n,.tree (.int .i64 0)]] [.c (.ref 3 1 0 n n),.c (.int .i64 (n:Int))] [.box [.int .i64 (n:Int),.slice (A0f es) .none],.ro [.int .i64 (n:Int),.slice (A0f es)],.box (iC d),.box (iC N),.roC [.tree (.int .i64 (n:Int)),.tree (.slice (A0f es)),.tree (.int .i64 (q:Int)),.ref 2 1 0 n n,.ref 3 1 0 n n,.tree (.int .i64 0)]] (.c (.int .i64 0)):=hC2.hb (by simp [toT,A0u,hb3,hbi,A0n,A0m]) rfl;refine zJ Qw8 (zc @hnl2 (zc @A11 (zc @hl Qw8))) Qw8 (zc hD1 (zc hD2 Qw8)) Qw8 ?_;simp [A4y,A1S,A0t,A1R,Tryz.results119]
theorem B2s (l:List Int) (hne:l≠[]) (hl:l.length<2^30):ACallN Tryz.prog 157 [A0n l] 1 (A0o l):=by
 have hrn:A0o l≠[]:=by simpa [A0o] using hne
 have hrl:(A0o l).length=l.length:=A0e l;have hrk: ∀r,r∈A0o l->r.length=1:=fun r hr=>A1s hr;have hrf: ∀r,r∈A0o l->A1f r=true:=fun r hr=>by obtain ⟨x,_,rfl⟩:=Xq.1 hr; rfl
 refine ACallN.of_body Tryz.func157 rfl (by kernel_rfl) hrk (by decide) hrn hrf ?_;simp only [entry,Tryz.ntmps157,A0n,ofT,A2G,A03,Xy,Zx,List.length_cons,List.length_nil,Nat.reduceAdd,Nat.reduceSub,List.replicate_succ,List.replicate_zero,List.cons_append,List.nil_append];generalize A0o l=rows at*
 repeat' (first|((first|(refine zT ?_;intro K' hK')|(refine zG ?_ ?_<;>(try refine zH ?_)<;>intro hguard<;>(try exact zX)<;>try intro K' hK'))<;>((try simp+contextual only [go_sem,hrl,chunks,List.range,List.range.loop]);(repeat' first|(with_reducible refine hK' _ _ ?_;clear hK' K')|(exact hrn)|(with_reducible exact hrk _ (by assumption))|(exact .inr Qw6)|exact zY|with_reducible refine Qw7 ?_ ?_|(with_reducible intro hpath;try exact zP)|(refine hK' _ _ ?_;clear hK' K')|fail);try refine zS ?_))|(refine zE ?_;refine hK _ _ ?_;clear hK K)|(refine zN ?_;try refine zS ?_)|refine zA ?_|(refine zB ?_;intro K hK)|(refine zC ?_ ?_<;>(try refine zH ?_)<;>intro hcond<;>try exact zX)|fail)
 simp [C39,Tryz.results157]
theorem C1g (n q:Nat) (es:List E) (d:List Int) (h1:1≤n) (h12:n≤12) (hd:d.length=n):
  ACallH Tryz.prog 116 [.box [.int .i64 (n:Int),.slice (A0f es) .none]] [ofT (tG ⟨(n:Int),es⟩),.c (.int .i64 (q:Int)),.c (.slice (A0o d) .none)] [.box [.int .i64 (n:Int),.slice (A0f es) .none],.ro [.int .i64 (n:Int),.slice (A0f es)],.box (iC d),.box (iC (List.replicate n 0)),.box [.int .i64 (n:Int),.slice (A0f es) .none,.int .i64 (q:Int),.ref 2 1 0 n n,.ref 3 1 0 n n,.int .i64 0]] (.c (.ptr 4 0)):=by
 have hdn:d≠[]:=by intro e; rw [e] at hd; simp at hd; omega
 have hC:ACallH Tryz.prog 157 [.box [.int .i64 (n:Int),.slice (A0f es) .none],.ro [.int .i64 (n:Int),.slice (A0f es)]] [.c (.slice (A0o d) .none)] [.box [.int .i64 (n:Int),.slice (A0f es) .none],.ro [.int .i64 (n:Int),.slice (A0f es)],.box (iC d)] (.c (.ref 2 1 0 n n)):=by
  have:=(B2s d hdn (by omega)).h (H:=[.box [.int .i64 (n:Int),.slice (A0f es) .none],.ro [.int .i64 (n:Int),.slice (A0f es)]]) (args:=[.c (.slice (A0o d) .none)]) (by with_unfolding_all rfl);rw [A6H,A0e,hd] at this;exact this
 have hC2:ACallH Tryz.prog 157 [.box [.int .i64 (n:Int),.slice (A0f es) .none],.ro [.int .i64 (n:Int),.slice (A0f es)],.box (iC (List.replicate n 0))] [.c (.slice (A0o d) .none)] [.box [.int .i64 (n:Int),.slice (A0f es) .none],.ro [.int .i64 (n:Int),.slice (A0f es)],.box (iC (List.replicate n 0)),.box (iC d)] (.c (.ref 3 1 0 n n)):=by
  have:=(B2s d hdn (by omega)).h (H:=[.box [.int .i64 (n:Int),.slice (A0f es) .none],.ro [.int .i64 (n:Int),.slice (A0f es)],.box (iC (List.replicate n 0))]) (args:=[.c (.slice (A0o d) .none)]) (by with_unfolding_all rfl);rw [A6H,A0e,hd] at this;exact this
 have hsw: ∀l:List Int,(iC l).mapM (A8h 2 3)=some (iC l):=fun l=>by
  induction l with
  | nil=>rfl
  | cons x l ih=>
   unfold iC at ih ⊢;rw [Xy,Jw,ih]; rfl
 simp only [tG,ofT,A2G,A03,Xy,Zx];refine ACallE.swapTo (H2:=[.box [.int .i64 (n:Int),.slice (A0f es) .none],.ro [.int .i64 (n:Int),.slice (A0f es)],.box (iC (List.replicate n 0)),.box (iC d),.box [.int .i64 (n:Int),.slice (A0f es) .none,.int .i64 (q:Int),.ref 3 1 0 n n,.ref 2 1 0 n n,.int .i64 0]]) (c2:= .ptr 4 0) ?_ 2 3 (by show 1≤2; decide) (by show 1≤3; decide) (by show 2<5; decide) (by show 3<5; decide) rfl (fun id hid=> ?_) rfl
 ·refine ACallE.of_body Tryz.func116 rfl (by kernel_rfl) ?_;simp only [entry,Tryz.ntmps116,List.length_cons,List.length_nil,Nat.reduceAdd,Nat.reduceSub,List.replicate_succ,List.replicate_zero,List.cons_append,List.nil_append];refine zJ (stop 1) trivial trivial trivial trivial ?_;refine AWp.freezeP 3 1 rfl rfl (ts:=[.int .i64 (n:Int),.slice (A0f es)]) rfl ?_;simp only [List.set_cons_succ,List.set_cons_zero];refine AWp.seq_draw2c (wd:= .loud) 1 3 3 6 (by decide+kernel) (fun K hK=> ?_) (fun K hK=> ?_)
  ·
   repeat' (first|((refine zT ?_;intro K' hK')<;>((try simp+contextual only [go_sem,A1I,Int.toNat_natCast,Yz,Xk]);(repeat' first|(with_reducible refine hK' _ _ ?_;clear hK' K')|((with_reducible first|refine ⟨_,_,hC,?_⟩|refine ⟨_,hC,?_⟩);try simp+contextual only [go_sem,A1I,Int.toNat_natCast,Yz,Xk])|exact zY|with_reducible refine Qw7 ?_ ?_|(with_reducible intro hpath;try exact zP)|(refine hK' _ _ ?_;clear hK' K')|fail);try refine zS ?_))|(refine zE ?_;refine hK _ _ ?_;clear hK K)|refine zA ?_|fail)
   simp [C2d,A1S,A0t,A1R,Tryz.results116]
  ·
   simp only [C2f,C3v,List.take_succ_cons,List.take_zero,Zk,ZJ,List.cons_append,List.nil_append,Nat.reduceMul]
   repeat' (first|((refine zT ?_;intro K' hK')<;>((try simp+contextual only [go_sem,A1I,Int.toNat_natCast,Yz,Xk]);(repeat' first|(with_reducible refine hK' _ _ ?_;clear hK' K')|((with_reducible first|refine ⟨_,_,hC2,?_⟩|refine ⟨_,hC2,?_⟩);try simp+contextual only [go_sem,A1I,Int.toNat_natCast,Yz,Xk])|exact zY|with_reducible refine Qw7 ?_ ?_|(with_reducible intro hpath;try exact zP)|(refine hK' _ _ ?_;clear hK' K')|fail);try refine zS ?_))|(refine zE ?_;refine hK _ _ ?_;clear hK K)|refine zA ?_|fail)
   simp [C2d,A1S,A0t,A1R,Tryz.results116]
 ·simp only [List.length_cons,List.length_nil,Nat.reduceAdd] at hid
  match id,hid with
  | 0,_=>exact .inl ⟨_,_,rfl,rfl,rfl⟩
  | 1,_=>exact .inr ⟨_,rfl,rfl⟩
  | 2,_=>exact .inl ⟨_,_,rfl,hsw _,rfl⟩
  | 3,_=>exact .inl ⟨_,_,rfl,hsw _,rfl⟩
  | 4,_=>exact .inl ⟨_,_,rfl,rfl,rfl⟩
theorem B9l (n q:Nat) (es:List E) (d:List Int) (hq:q<n) (hd:d.length=n) (h1:1≤n) (h12:n≤12) (hl:es.length<2^30) (hc:checkG ⟨(n:Int),es⟩=0) (hcc:connB ⟨(n:Int),es⟩=true) (hb:bndL 1048576 d):ACall Tryz.prog 115 [tG ⟨(n:Int),es⟩,A0m q,A0n d] (A0m 0):=by
 have hC:ACall Tryz.prog 129 [tG ⟨(n:Int),es⟩] (.tup [A0v true,A0m 0]):=by
  have:=A3q ⟨(n:Int),es⟩ hl;rw [hc,hcc] at this;exact this
 have hChk:=A6t d n h1 h12 hd hb;have h0: ¬((q:Int)<0):=by omega
 have h2: ¬((q:Int)≥(n:Int)):=by omega
 refine ACall.of_body Tryz.func115 rfl (by kernel_rfl) ?_;simp only [entry,Tryz.ntmps115,tG,A0m,A0n];refine zU ?_;refine zR (zc @h0 (zc @h2 Qw8)) (zc hC (zc hChk Qw8)) Qw8 ?_;simp [A0z,A0y,Blk.cells,ty,Tryz.results115,A0t,A0u,toT,A0d,A0b,A0c,A0a,A0m]
section
variable {n:Nat} {es:List E}
end
structure Gok (n:Nat) (es:List E):Prop where
 h1:1≤n
 h12:n≤12
 hl:es.length≤40
 hE:EsOk n es
 hm1: ∀e,e∈es->1≤e.m
 hM:Mult n (mulE es)
 hc:checkG ⟨(n:Int),es⟩=0
 hcc:connB ⟨(n:Int),es⟩=true
structure Dok (n:Nat) (es:List E) (d:List Int):Prop where
 len:d.length=n
 bnd: ∃B C P:Int,0≤B∧bndL B d∧B≤C∧(∀q far,q<n->BFq es n q far []->powF (levF es far) B (n-1)≤C)∧sumR (fun v=>max 0 (d.getD v 0)) n≤P∧C+P≤1048576∧C+n*P≤1048576
theorem C1F (ls:List (List Int)) (n:Nat) (h1:1≤n) (h12:n≤12) (hll:ls.length<2^20) (hls: ∀d,d∈ls->d.length=n∧bndL 1048576 d):ACall Tryz.prog 112 [.t (.slice (A0x ls))] (A0m 0):=by
 refine ACall.of_body Tryz.func112 rfl (by kernel_rfl) ?_;simp only [entry,Tryz.ntmps112,A0m];refine zU ?_;refine zJ (stop 2) (zc @A0q Qw8) Qw8 Qw8 Qw8 ?_;refine AWp.loopS (α:=Nat) 36 (fun i=>[(0,.c (.slice (A0x ls) .none)),(8,.c (.slice (A0x ls) .none)),(9,.c (.int .i64 (ls.length:Int))),(10,.c (.int .i64 (i:Int)))]) (fun i=>[]) (fun i=>i≤ls.length) (fun i=>ls.length-i) (0) (hk:=Weak.headL 0 36 [0,8,9,10] (zV3 @A1d @A0E @A0F)) (h0:=?_) (round:=fun i hI=>?_)
 ·exact Xj _
 ·have hi:i≤ls.length:=hI;clear hI;by_cases hil:i<ls.length
  ·have hiI:(i:Int)<(ls.length:Int):=by omega
   have hge:=Qq hil;have hg:=A0X hge;obtain ⟨d1,d2⟩:=hls _ (Qy hge);generalize ls[i]=d at*;have hC:=A6t d n h1 h12 d1 d2;refine zR (zc @hiI (zc @hg (zc @A0q (zc @A0e (zc @d1 (zc @Xk Qw8)))))) (zc hC Qw8) Qw8 ?_;refine ⟨i+1,Weak.headN 0 36 [0,8,9,10] (zV3 @A1d @A0E @A0F),?_,?_⟩
   ·exact hil
   ·omega
  ·have hnl: ¬(i:Int)<(ls.length:Int):=by omega
   refine zJ (stop 9) (zc @hnl (zc @A0q Qw8)) Qw8 Qw8 Qw8 ?_;refine AWp.loopS (α:=Nat) 36 (fun j=>[(0,.c (.slice (A0x ls) .none)),(22,.c (.slice (A0x ls) .none)),(23,.c (.int .i64 (ls.length:Int))),(24,.c (.int .i64 (j:Int)))]) (fun j=>[]) (fun j=>j≤ls.length) (fun j=>ls.length-j) (0) (hk:=Weak.headL 0 36 [0,22,23,24] (zV3 @A1d @A0E @A0F)) (h0:=?_) (round:=fun j hI=>?_)
   ·exact Xj _
   ·have hj:j≤ls.length:=hI;clear hI;by_cases hjl:j<ls.length
    ·have hjI:(j:Int)<(ls.length:Int):=by omega
     have h0I:(0:Int)<(ls.length:Int):=by omega
     have hge:=Qq hjl;have hg:=A0X hge;have hge0:=Qq (show 0<ls.length by omega);have hg0:=A0X hge0;obtain ⟨d1,d2⟩:=hls _ (Qy hge);obtain ⟨d3,d4⟩:=hls _ (Qy hge0);generalize ls[j]=d at*;generalize ls[0]=d0 at*;refine zR (zc @hjI (zc @h0I (zc @hg (zc @hg0 (zc @A0q (zc @A0e (zc @d1 (zc @d3 (zc @Int.toNat_zero (zc @Xk Qw8)))))))))) Qw8 Qw8 ?_;refine ⟨j+1,Weak.headN 0 36 [0,22,23,24] (zV3 @A1d @A0E @A0F),?_,?_⟩
     ·exact hjl
     ·omega
    ·have hnl2: ¬(j:Int)<(ls.length:Int):=by omega
     refine zR (zc @hnl2 Qw8) Qw8 Qw8 ?_;simp [A0z,A0y,Blk.cells,ty,Tryz.results112,A0t,A0u,toT,A0d,A0b,A0c,A0a,A0m]
end Go.Proofs.YtdbdfkohpjefjaaGreat
