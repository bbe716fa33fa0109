/- A part of the proof. -/
import Derived.Test.YtdhfgihnoimoaaaPart34
import Derived.Test.YtdhfgihnoimoaaaPart17
import Derived.Test.YtdhfgihnoimoaaaLayerC
set_option linter.all false
set_option maxHeartbeats 4000000
set_option maxRecDepth 100000
namespace Go.Proofs.Ytdhfgihnoimoaaa
open Go.Sp
set_option maxHeartbeats 1000000
def jnS (es:List E) (A:List Bool) (v:Nat):Int:=joinL (fun u=> !A.getD u.toNat false) (lnkL es v)
def minS (es:List E) (d:List Int) (A:List Bool):Nat→Int
 | 0=>0
 | v+1=>if A.getD v false=true∧0<jnS es A v then (if minS es d A v=0∨(d.getD v 0).tdiv (jnS es A v)<minS es d A v then (d.getD v 0).tdiv (jnS es A v) else minS es d A v) else minS es d A v
theorem B0M (es:List E) (d:List Int) (A:List Bool) (v:Nat):minS es d A (v+1)=if A.getD v false=true∧0<jnS es A v then (if minS es d A v=0∨(d.getD v 0).tdiv (jnS es A v)<minS es d A v then (d.getD v 0).tdiv (jnS es A v) else minS es d A v) else minS es d A v:=rfl
def A0A (n:Nat) (B:List Bool):List Bool:=A9T B n n
def A29 (n:Nat) (es:List E) (B:List Bool) (w:List Int×List Int):List Int×List Int:=
 (A1t es (minS es w.1 (A0A n B) n) (A0A n B) n w.1,A1q (minS es w.1 (A0A n B) n) (A0A n B) n w.2)
inductive SEnd (es:List E) (n q:Nat):List Int×List Int→List Int×List Int→List Bool→Prop where
 | stop {w:List Int×List Int} {B:List Bool}:BEnd es w.1 n (A5Q n q) B→B.length=n→A3T B n=false→SEnd es n q w w B
 | go {w W:List Int×List Int} {B Z:List Bool}:BEnd es w.1 n (A5Q n q) B→B.length=n→A3T B n=true→A91 es w.1 q B→(∀v,v<n→B4k es w.1 B v=false)→SEnd es n q (A29 n es B w) W Z→SEnd es n q w W Z
theorem A7j {a j:Int} (hj:1≤j) (ha:j≤a):1≤a.tdiv j∧a.tdiv j*j≤a∧a.tdiv j≤a:=by
 rw [Int.tdiv_eq_ediv_of_nonneg (by omega)]
 have h1:=Int.mul_ediv_add_emod a j
 have h2:=Int.emod_nonneg a (show j≠0 by omega)
 have h3:1≤a / j:=Int.le_ediv_of_mul_le (by omega) (by omega)
 refine ⟨h3,by rw [Int.mul_comm]; omega,?_⟩
 exact Int.ediv_le_self _ (by omega)
theorem B1X {es:List E} {d:List Int} {A:List Bool}: ∀m,(∀v,v<m→A.getD v false=true→jnS es A v≤d.getD v 0)→0≤minS es d A m∧ ∀v,v<m→A.getD v false=true→0<jnS es A v→1≤minS es d A m∧minS es d A m≤(d.getD v 0).tdiv (jnS es A v)
 | 0,_=>⟨Int.le_refl _,fun v hv=>by omega⟩
 | m+1,h=>by
  obtain ⟨i1,i2⟩:=B1X m fun v hv=>h v (by omega)
  rw [B0M]
  by_cases hc:A.getD m false=true∧0<jnS es A m
  ·rw [if_pos hc]
   have h1:=A7j (a:=d.getD m 0) (show 1≤jnS es A m by omega) (h m (by omega) hc.1)
   generalize hq:(d.getD m 0).tdiv (jnS es A m)=y at*
   by_cases hl:minS es d A m=0∨y<minS es d A m
   ·rw [if_pos hl]
    refine ⟨by omega,fun v hv ha hj=> ?_⟩
    by_cases e:v=m
    ·subst e; rw [hq]; omega
    ·have:=i2 v (by omega) ha hj; omega
   ·rw [if_neg hl]
    refine ⟨i1,fun v hv ha hj=> ?_⟩
    by_cases e:v=m
    ·subst e; rw [hq]; omega
    ·exact i2 v (by omega) ha hj
  ·rw [if_neg hc]
   refine ⟨i1,fun v hv ha hj=> ?_⟩
   by_cases e:v=m
   ·subst e; exact absurd ⟨ha,hj⟩ hc
   ·exact i2 v (by omega) ha hj
theorem B6Y {p:Nat→Prop}: ∀i,p i→ ∃j,p j∧ ∀k,k<j→ ¬p k:=by
 intro i
 induction i using Nat.strongRecOn with
 | ind i ih=>
  intro hi
  by_cases h: ∃k,k<i∧p k
  ·obtain ⟨k,h1,h2⟩:=h
   exact ih k h1 h2
  ·exact ⟨i,hi,fun k hk hp=>h ⟨k,hk,hp⟩⟩
section
variable {n:Nat} {es:List E}
theorem A3f {B:List Bool} {v:Nat} (hv:v<n):(A0A n B).getD v false= !B.getD v false:=by
 unfold A0A
 rw [List.getD_eq_getElem?_getD,A92,if_pos hv,decide_eq_true hv]; simp
theorem B55 (B:List Bool):(A0A n B).length=n:=A5P B n n
theorem A9A (h:EsOk n es) (A:List Bool) (v:Nat):jnS es A v=outA n (mulE es) (A3B A) v:=by
 unfold jnS
 rw [A3A (n:=n) _ _ h]
 unfold outA A3B
 refine A0k fun u _=> ?_
 show (if (!A.getD u false)=true then mulE es v u else 0)=_
 cases A.getD u false<;>simp
theorem A9B (h:EsOk n es) (B:List Bool) (v:Nat):jnS es (A0A n B) v=jnB es B v:=by
 rw [A9A h,B51 h]
 unfold outA inA A3B
 refine A0k fun u hu=> ?_
 rw [A3f hu]
 cases B.getD u false<;>simp
theorem B0N {B:List Bool} (h:A3T B n=false) {v:Nat} (hv:v<n):B.getD v false=true:=by
 unfold A3T at h
 rw [List.any_eq_false] at h
 have:=h v (List.mem_range.2 hv)
 simpa using this
theorem B6Z {B:List Bool} (h:A3T B n=true): ∃v,v<n∧B.getD v false=false:=by
 unfold A3T at h
 obtain ⟨v,h1,h2⟩:=List.any_eq_true.1 h
 exact ⟨v,List.mem_range.1 h1,by simpa using h2⟩
structure SInv (n:Nat) (es:List E) (q:Nat) (d0:List Int) (X Y sq:Int) (w:List Int×List Int):Prop where
 dl:w.1.length=n
 sl:w.2.length=n
 led:Led n es d0 w.1 w.2
 don: ∀v,v<n→v≠q→0≤w.1.getD v 0
 dq: -X≤w.1.getD q 0
 low: ∀v,v<n→ -Y≤w.2.getD v 0
 sq:w.2.getD q 0=sq
theorem B56 (h:EsOk n es) (hM:Mult n (mulE es)) {B:List Bool} {q:Nat} (hq:q<n) (hBq:B.getD q false=true) (hs:A3T B n=true): ∃v,v<n∧(A0A n B).getD v false=true∧0<jnS es (A0A n B) v:=by
 obtain ⟨v,hv,hBv⟩:=B6Z hs
 obtain ⟨a,b,ha,hb,h1,h2,h3⟩:=hM.con (A3B (A0A n B)) ⟨v,hv,by unfold A3B; rw [A3f hv,hBv]; rfl⟩ ⟨q,hq,by unfold A3B; rw [A3f hq,hBq]; rfl⟩
 refine ⟨a,ha,h1,?_⟩
 rw [A9A h]
 have:=A0X (f:=fun u=>if A3B (A0A n B) u=true then 0 else mulE es a u) (n:=n) (fun u _=>by have:=A17 h a u; split<;>omega) hb
 simp only [h2] at this
 have h5:outA n (mulE es) (A3B (A0A n B)) a=sumR (fun u=>if A3B (A0A n B) u=true then 0 else mulE es a u) n:=rfl
 simp at this
 omega
theorem SInv.step (h:EsOk n es) (hM:Mult n (mulE es)) {q:Nat} (hq:q<n) {d0:List Int} {X Y sq:Int} {w:List Int×List Int} (hI:SInv n es q d0 X Y sq w) {B:List Bool} (hb:A91 es w.1 q B) (hm: ∀v,v<n→B4k es w.1 B v=false) (hs:A3T B n=true):
  SInv n es q d0 X Y sq (A29 n es B w)∧1≤minS es w.1 (A0A n B) n∧sumR (fun v=>w.2.getD v 0) n+1≤sumR (fun v=>(A29 n es B w).2.getD v 0) n∧ ∃v,v<n∧v≠q∧minS es w.1 (A0A n B) n≤w.1.getD v 0:=by
 obtain ⟨L,hL⟩:=hb
 have hBq:B.getD q false=true:=(hL.mem q).2 (List.mem_of_getElem? hL.hd)
 have hal: ∀v,v<n→(A0A n B).getD v false=true→jnS es (A0A n B) v≤w.1.getD v 0:=fun v hv ha=>by
  have:=hm v hv
  unfold B4k at this
  rw [A3f hv] at ha
  rw [ha,Bool.true_and,decide_eq_false_iff_not] at this
  rw [A9B h]; omega
 obtain ⟨m1,m2⟩:=B1X n hal
 obtain ⟨a,ha,ha1,ha2⟩:=B56 h hM hq hBq hs
 obtain ⟨t1,t2⟩:=m2 a ha ha1 ha2
 have haq:a≠q:=by rintro rfl; rw [A3f ha,hBq] at ha1; cases ha1
 have hta:=A7j (a:=w.1.getD a 0) (show 1≤jnS es (A0A n B) a by omega) (hal a ha ha1)
 have hfin: ∀v,v<n→(A29 n es B w).1.getD v 0=w.1.getD v 0-lap n (mulE es) (fun u=>minS es w.1 (A0A n B) n*A5o (A3B (A0A n B)) u) v:=fun v hv=>A5T h hI.dl hv
 have hsin: ∀v,v<n→(A29 n es B w).2.getD v 0=w.2.getD v 0+minS es w.1 (A0A n B) n*A5o (A3B (A0A n B)) v:=fun v hv=>A5U hI.sl hv
 have hqd:A3B (A0A n B) q=false:=by unfold A3B; rw [A3f hq,hBq]; rfl
 have hfo:=B1K (q:=q) (D:=fun v=>w.1.getD v 0) hM hI.don (A:=A3B (A0A n B)) m1 fun v hv hA=>by
  have hA':(A0A n B).getD v false=true:=hA
  rw [←A9A h]
  have hz:=A9A h (A0A n B) v
  by_cases hj:0<jnS es (A0A n B) v
  ·have h1:=(m2 v hv hA' hj).2
   have h2:=A7j (a:=w.1.getD v 0) (show 1≤jnS es (A0A n B) v by omega) (hal v hv hA')
   have h3:=Int.mul_le_mul_of_nonneg_right h1 (show 0≤jnS es (A0A n B) v by omega)
   omega
  ·have h0:jnS es (A0A n B) v=0:=by
    have:0≤jnS es (A0A n B) v:=by rw [A9B h]; exact B52 h B v
    omega
   have h4:=hal v hv hA'
   rw [h0] at h4 ⊢
   rw [Int.mul_zero]; exact h4
 have hnn: ∀v,0≤minS es w.1 (A0A n B) n*A5o (A3B (A0A n B)) v:=fun v=>Int.mul_nonneg m1 (by unfold A5o; split<;>omega)
 refine ⟨⟨by unfold A29; rw [A21]; exact hI.dl,by unfold A29; rw [A2n]; exact hI.sl,hI.led.fire h hI.dl hI.sl _ _,fun v hv hne=> ?_,?_,fun v hv=> ?_,?_⟩,t1,?_,a,ha,haq,by omega⟩
 ·rw [hfin v hv]; exact hfo v hv hne
 ·rw [hfin q hq,A6t,if_neg (by rw [hqd]; simp)]
  have h1:=Int.mul_nonneg m1 (A6u hM (A3B (A0A n B)) q)
  have:=hI.dq
  omega
 ·rw [hsin v hv]
  have h1:=hI.low v hv
  have:=hnn v
  omega
 ·rw [hsin q hq]
  unfold A5o
  rw [if_neg (by rw [hqd]; simp),Int.mul_zero,Int.add_zero]; exact hI.sq
 ·rw [A0k fun v hv=>hsin v hv,A1g]
  have h1:=A0X (f:=fun v=>minS es w.1 (A0A n B) n*A5o (A3B (A0A n B)) v) (n:=n) (fun v _=>hnn v) ha
  have h2:minS es w.1 (A0A n B) n*A5o (A3B (A0A n B)) a=minS es w.1 (A0A n B) n:=by
   unfold A5o
   rw [if_pos (show A3B (A0A n B) a=true from ha1),Int.mul_one]
  simp only [h2] at h1
  omega
theorem SInv.top (h:EsOk n es) (hM:Mult n (mulE es)) {q:Nat} (hq:q<n) {d0:List Int} {X Y sq P:Int} {w:List Int×List Int} (hI:SInv n es q d0 X Y sq w) (hP:sumR (fun v=>if v=q then 0 else max 0 (d0.getD v 0)) n≤P): ∀v,v<n→w.2.getD v 0≤sq+n*P:=by
 have:=B1J hM (D:=fun v=>d0.getD v 0) (s:=fun v=>w.2.getD v 0) hq (fun v hv hne=>by
  have h1:=hI.led v hv
  have:=hI.don v hv hne
  omega) hP
 rw [hI.sq] at this
 exact this
theorem B9O (h:EsOk n es) (hM:Mult n (mulE es)) {q:Nat} (hq:q<n) {d0:List Int} {X Y sq P:Int} (hP:sumR (fun v=>if v=q then 0 else max 0 (d0.getD v 0)) n≤P): ∀(k:Nat) (w:List Int×List Int),SInv n es q d0 X Y sq w→n*(sq+n*P)-sumR (fun v=>w.2.getD v 0) n≤k→ ∃W B,SEnd es n q w W B∧SInv n es q d0 X Y sq W∧A91 es W.1 q B∧ ∀v,v<n→B.getD v false=true:=by
 intro k
 induction k with
 | zero=>
  intro w hI hk
  obtain ⟨B,b1,b2,b3,b4⟩:=B9J (es:=es) (d:=w.1) (n:=n) (q:=q) _ (A5Q n q) (Nat.le_refl _) (by simp [A5Q]) (A8J hq)
  cases hs:A3T B n with
  | false=>exact ⟨w,B,.stop b1 b2 hs,hI,b3,fun v hv=>B0N hs hv⟩
  | true=>
   obtain ⟨i1,_,i3,_⟩:=hI.step h hM hq b3 b4 hs
   have h1:=i1.top h hM hq hP
   have h2:=A1s (f:=fun v=>(A29 n es B w).2.getD v 0) (g:=fun _=>sq+n*P) (n:=n) h1
   rw [A1H] at h2
   omega
 | succ k ih=>
  intro w hI hk
  obtain ⟨B,b1,b2,b3,b4⟩:=B9J (es:=es) (d:=w.1) (n:=n) (q:=q) _ (A5Q n q) (Nat.le_refl _) (by simp [A5Q]) (A8J hq)
  cases hs:A3T B n with
  | false=>exact ⟨w,B,.stop b1 b2 hs,hI,b3,fun v hv=>B0N hs hv⟩
  | true=>
   obtain ⟨i1,_,i3,_⟩:=hI.step h hM hq b3 b4 hs
   obtain ⟨W,Z,w1,w2⟩:=ih (A29 n es B w) i1 (by omega)
   exact ⟨W,Z,.go b1 b2 hs b3 b4 w1,w2⟩
theorem B57 (h:EsOk n es) {q:Nat} (hq:q<n) {d:List Int} (hd: ∀v,v<n→v≠q→0≤d.getD v 0) {B:List Bool} (hb:A91 es d q B) (hB: ∀v,v<n→B.getD v false=true):A1S n (mulE es) q (fun v=>d.getD v 0):=by
 obtain ⟨L,hL⟩:=hb
 refine ⟨hd,fun A hAq ⟨a,ha,hAa⟩=> ?_⟩
 have hex: ∃i:Nat,∃v:Nat,L[i]? =some v∧v<n∧A v=true:=by
  obtain ⟨i,hi⟩:=List.mem_iff_getElem?.1 ((hL.mem a).1 (hB a ha))
  exact ⟨i,a,hi,ha,hAa⟩
 obtain ⟨i9,hi9⟩:=hex
 obtain ⟨i,⟨v,hi,hv,hAv⟩,hmin⟩:=B6Y (p:=fun i=> ∃v:Nat,L[i]? =some v∧v<n∧A v=true) i9 hi9
 refine ⟨v,hv,hAv,?_⟩
 have hi1:1≤i:=by
  refine Classical.byContradiction fun e=> ?_
  have:i=0:=by omega
  subst this
  rw [hL.hd] at hi
  cases hi
  rw [hAq] at hAv; cases hAv
 have h1:=hL.ord i v hi1 hi
 refine Int.lt_of_lt_of_le h1 ?_
 rw [A3A (n:=n) _ _ h]
 unfold outA
 refine A1s fun u hu=> ?_
 show (if decide (u∈L.take i)=true then mulE es v u else 0)≤_
 have hp:=A17 h v u
 by_cases hm:u∈L.take i
 ·rw [if_pos (decide_eq_true hm)]
  obtain ⟨j,hj⟩:=List.mem_iff_getElem?.1 hm
  rw [List.getElem?_take] at hj
  split at hj
  ·rename_i hji
   have hAu:A u=false:=by
    refine Classical.byContradiction fun e=>hmin j hji ⟨u,hj,hu,by simpa using e⟩
   rw [if_neg (by rw [hAu]; simp)]; exact Int.le_refl _
  ·cases hj
 ·rw [if_neg (by simpa using hm)]
  split<;>omega
end
theorem A8M (n q:Nat) (es:List E) (d s:List Int) (h1:1≤n) (h12:n≤12) (hq:q<n) (hd:d.length=n) (hs:s.length=n) (hl:es.length≤40) (hm: ∀e,e∈es→(0≤e.a∧e.a<n)∧(0≤e.b∧e.b<n)∧0≤e.m∧e.m≤50) (B:List Bool) (hB:BEnd es d n (A5Q n q) B) (hBl:B.length=n):
  ACallH Try.prog 110 [.box [.int .i64 (n:Int),.slice (A0b es) .none],.ro [.int .i64 (n:Int),.slice (A0b es)],.box (iC d),.box (iC s),.roC [.tree (.int .i64 (n:Int)),.tree (.slice (A0b es)),.tree (.int .i64 (q:Int)),.ref 2 1 0 n n,.ref 3 1 0 n n,.tree (.int .i64 0)]] [.c (.ptr 4 0)] [.box [.int .i64 (n:Int),.slice (A0b es) .none],.ro [.int .i64 (n:Int),.slice (A0b es)],.box (iC d),.box (iC s),.roC [.tree (.int .i64 (n:Int)),.tree (.slice (A0b es)),.tree (.int .i64 (q:Int)),.ref 2 1 0 n n,.ref 3 1 0 n n,.tree (.int .i64 0)]] (.tup [.c (.slice (A1m (A0A n B)) .none),.c (.bool (A3T B n))]):=by
 obtain ⟨X,hX⟩:=B1S n q es d s h1 h12 hq hd hs hl hm B hB hBl
 refine hX.trim (Nat.le_refl _) (fun x hx=> ?_) (B0A n q es d s (m:=5) (by decide))
 simp only [List.mem_cons,List.not_mem_nil,or_false] at hx
 rcases hx with rfl | rfl<;>exact True.intro
theorem SInv.bnd {n:Nat} {es:List E} (h:EsOk n es) (hM:Mult n (mulE es)) {q:Nat} (hq:q<n) {d0:List Int} {X Y sq P C:Int} {w:List Int×List Int} (hI:SInv n es q d0 X Y sq w) (hP:sumR (fun v=>max 0 (d0.getD v 0)) n≤P) (hX:0≤X) (hsq: -Y≤sq∧sq≤Y) (hC1:X+P≤C) (hC2:Y+n*P≤C):bndL C w.1∧bndL C w.2:=by
 have hP0:0≤P:=Int.le_trans (A0W fun v _=>by omega) hP
 have hnP:0≤(n:Int)*P:=Int.mul_nonneg (by omega) hP0
 have hP':sumR (fun v=>if v=q then 0 else max 0 (d0.getD v 0)) n≤P:=Int.le_trans (A1s fun v _=>by (try dsimp only); split<;>omega) hP
 have hsum:sumR (fun v=>w.1.getD v 0) n≤P:=by
  have e:sumR (fun v=>w.1.getD v 0) n=sumR (fun v=>d0.getD v 0) n:=by
   rw [A0k fun v hv=>hI.led v hv,A1i,B1G hM]; omega
  rw [e]
  exact Int.le_trans (A1s fun v _=>by omega) hP
 have hpos: ∀v,v<n→0≤w.1.getD v 0+if v=q then X else 0:=fun v hv=>by
  by_cases e:v=q
  ·subst e; rw [if_pos rfl]; have:=hI.dq; omega
  ·rw [if_neg e]; have:=hI.don v hv e; omega
 have hs2:sumR (fun v=>w.1.getD v 0+if v=q then X else 0) n≤P+X:=by
  rw [A1g,A0L X q hq]; omega
 have htop:=hI.top h hM hq hP'
 refine ⟨fun i=> ?_,fun i=> ?_⟩
 ·by_cases hi:i<n
  ·have h1:=A0X (f:=fun v=>w.1.getD v 0+if v=q then X else 0) hpos hi
   have h2:=hpos i hi
   (try dsimp only at h1)
   split at h1<;>split at h2<;>omega
  ·rw [List.getD_eq_getElem?_getD,List.getElem?_eq_none (by rw [hI.dl]; omega)]
   simp only [Option.getD_none]; omega
 ·by_cases hi:i<n
  ·have h1:=htop i hi
   have h2:=hI.low i hi
   omega
  ·rw [List.getD_eq_getElem?_getD,List.getElem?_eq_none (by rw [hI.sl]; omega)]
   simp only [Option.getD_none]; omega
theorem B3S (n q:Nat) (es:List E) (d s:List Int) (h1:1≤n) (h12:n≤12) (hq:q<n) (hl:es.length≤40) (hE:EsOk n es) (hM:Mult n (mulE es)) (d0:List Int) (X Y sq P C:Int) (hX:0≤X) (hP:sumR (fun v=>max 0 (d0.getD v 0)) n≤P) (hsq: -Y≤sq∧sq≤Y) (hC1:X+P≤C) (hC2:Y+n*P≤C) (hC:C≤2097152) (hS:SInv n es q d0 X Y sq (d,s)) (W:List Int×List Int) (Z:List Bool) (hW:SEnd es n q (d,s) W Z):
  ACallH Try.prog 90 [.box [.int .i64 (n:Int),.slice (A0b es) .none],.ro [.int .i64 (n:Int),.slice (A0b es)],.box (iC d),.box (iC s),.roC [.tree (.int .i64 (n:Int)),.tree (.slice (A0b es)),.tree (.int .i64 (q:Int)),.ref 2 1 0 n n,.ref 3 1 0 n n,.tree (.int .i64 0)]] [.c (.ptr 4 0)] ([.box [.int .i64 (n:Int),.slice (A0b es) .none],.ro [.int .i64 (n:Int),.slice (A0b es)],.box (iC W.1),.box (iC W.2),.roC [.tree (.int .i64 (n:Int)),.tree (.slice (A0b es)),.tree (.int .i64 (q:Int)),.ref 2 1 0 n n,.ref 3 1 0 n n,.tree (.int .i64 0)]]++[.box [.slice (A1m (A0A n Z)) .none]]) (.tup []):=by
 have hm:=hE.rng
 have hkb: ∀(v:Nat) u k,(u,k)∈lnkL es v→ ∃w:Nat,u=w∧w<n:=fun v u k hx=>by
  obtain ⟨e,he,e1,_,e2⟩:=A2u hx
  have:=hm e he
  simp only at e2
  exact ⟨u.toNat,by omega,by omega⟩
 have hJ: ∀(d s:List Int) (R:List Bool) (v:Nat),d.length=n→s.length=n→R.length=n→v<n→ACallH Try.prog 108 [.box [.int .i64 (n:Int),.slice (A0b es) .none],.ro [.int .i64 (n:Int),.slice (A0b es)],.box (iC d),.box (iC s),.roC [.tree (.int .i64 (n:Int)),.tree (.slice (A0b es)),.tree (.int .i64 (q:Int)),.ref 2 1 0 n n,.ref 3 1 0 n n,.tree (.int .i64 0)],.box [.slice (A1m R) .none]] [.c (.ptr 4 0),.c (.int .i64 (v:Int)),.c (.fn 111 [.ptr 5 0])] [.box [.int .i64 (n:Int),.slice (A0b es) .none],.ro [.int .i64 (n:Int),.slice (A0b es)],.box (iC d),.box (iC s),.roC [.tree (.int .i64 (n:Int)),.tree (.slice (A0b es)),.tree (.int .i64 (q:Int)),.ref 2 1 0 n n,.ref 3 1 0 n n,.tree (.int .i64 0)],.box [.slice (A1m R) .none]] (.c (.int .i64 (jnS es R v))):=fun d s R v hd hs hR hv=>
  B5j n q es d s R (by intro e; rw [e] at hd; simp at hd; omega) (by intro e; rw [e] at hs; simp at hs; omega) (by intro e; rw [e] at hR; simp at hR; omega) (by omega) (fun e he=>by have:=hm e he; omega) v (by omega) _ _ fun X u k hx=>by
   obtain ⟨w,rfl,hw⟩:=hkb v u k hx
   exact B9j n R hR rfl w hw
 have hP':sumR (fun v=>if v=q then 0 else max 0 (d0.getD v 0)) n≤P:=Int.le_trans (A1s fun v _=>by (try dsimp only); split<;>omega) hP
 simp only [List.cons_append,List.nil_append]
 refine ACallH.of_body Try.func90 rfl (by kernel_rfl) ?_
 simp only [entry,Try.ntmps90,List.length_cons,List.length_nil,Nat.reduceAdd,Nat.reduceSub,List.replicate_succ,List.replicate_zero,List.cons_append,List.nil_append]
 refine zR trivial trivial trivial ?_
 refine AWp.loopS (α:=(List Int×List Int)) 58 (fun w=>[(0,.c (.ptr 4 0))]) (fun w=>[.box [.int .i64 (n:Int),.slice (A0b es) .none],.ro [.int .i64 (n:Int),.slice (A0b es)],.box (iC w.1),.box (iC w.2),.roC [.tree (.int .i64 (n:Int)),.tree (.slice (A0b es)),.tree (.int .i64 (q:Int)),.ref 2 1 0 n n,.ref 3 1 0 n n,.tree (.int .i64 0)]]) (fun w=>SInv n es q d0 X Y sq w∧SEnd es n q w W Z) (fun w=>(n*(sq+n*P)-sumR (fun v=>w.2.getD v 0) n).toNat) ((d,s)) (hk:=A0s.headL 5 58 [0] (zV3 @A0o @A0j @A0r)) (h0:=?_) (round:=fun w hI=>?_)
 ·exact ⟨hS,hW⟩
 ·clear hW hS d s
  obtain ⟨d,s⟩:=w
  obtain ⟨hSk,hE9⟩:=hI
  simp only at hSk hE9 ⊢
  have hd:=hSk.dl
  have hs:=hSk.sl
  simp only at hd hs
  cases hE9 with
  | stop b1 b2 b3=>
   simp only at b1
   have hU:=A8M n q es d s h1 h12 hq hd hs hl hm _ b1 b2
   rw [b3] at hU
   refine zJ trivial trivial trivial (zc hU trivial) trivial ?_
   simp [A2W,A1M,A0y,A1L,Try.results90]
  | @go _ _ B _ b1 b2 b3 b4 b5 b6=>
   simp only at b1 b4 b5
   have hU:=A8M n q es d s h1 h12 hq hd hs hl hm _ b1 b2
   rw [b3] at hU
   obtain ⟨hst,ht1,hinc,a9,ha9,ha9q,htle⟩:=hSk.step hE hM hq b4 b5 b3
   obtain ⟨hb1,hb2⟩:=hSk.bnd hE hM hq hP hX hsq hC1 hC2
   obtain ⟨hb3,hb4⟩:=hst.bnd hE hM hq hP hX hsq hC1 hC2
   have htopn:=hst.top hE hM hq hP'
   have hdec:(n*(sq+n*P)-sumR (fun v=>(A29 n es B (d,s)).2.getD v 0) n).toNat<(n*(sq+n*P)-sumR (fun v=>s.getD v 0) n).toNat:=by
    have h2:=A1s (f:=fun v=>(A29 n es B (d,s)).2.getD v 0) (g:=fun _=>sq+n*P) (n:=n) htopn
    rw [A1H] at h2
    simp only at hinc
    omega
   have hda:=hb1 a9
   simp only at hb1 hb2 ht1 htle hda
   have hAl:=B55 (n:=n) B
   have hjp: ∀v,v<n→(A0A n B).getD v false=true→jnS es (A0A n B) v≤d.getD v 0:=fun v hv ha=>by
    have:=b5 v hv
    unfold B4k at this
    rw [A3f hv] at ha
    rw [ha,Bool.true_and,decide_eq_false_iff_not] at this
    rw [A9B hE]; omega
   have hs1:A29 n es B (d,s)=(A1t es (minS es d (A0A n B) n) (A0A n B) n d,A1q (minS es d (A0A n B) n) (A0A n B) n s):=rfl
   have hF:=B6T n q es d s (A0A n B) h1 h12 hd hs hAl hl hm (minS es d (A0A n B) n) (by omega) (A0t hb1 (by omega)) (A0t hb2 (by omega)) (by rw [hs1] at hb3; exact A0t hb3 (by omega)) (by rw [hs1] at hb4; exact A0t hb4 (by omega))
   rw [hs1] at hst b6 hdec
   have hsz2:=A99 hE
   have hjS: ∀v,jnS es (A0A n B) v=jnB es B v:=A9B hE B
   have hjn: ∀v,0≤jnS es (A0A n B) v∧jnS es (A0A n B) v≤2000:=fun v=>by
    rw [hjS]
    have:=B52 hE B v
    have:=B9m hE B v
    omega
   clear hjS hs1 hb3 hb4 htopn hinc hda htle ha9 ha9q a9 b1 b2 b3 b4 b5
   generalize A0A n B=A at*
   refine zJ (stop 5) (zc @A0V (zc @hAl trivial)) trivial (zc hU trivial) trivial ?_
   refine AWp.loopS (α:=Nat) 58 (fun v=>[(0,.c (.ptr 4 0)),(2,.c (.ptr 5 0)),(4,.c (.int .i64 (minS es d A v))),(21,.c (.slice (A1m A) .none)),(22,.c (.int .i64 (n:Int))),(23,.c (.int .i64 (v:Int)))]) (fun v=>[.box [.int .i64 (n:Int),.slice (A0b es) .none],.ro [.int .i64 (n:Int),.slice (A0b es)],.box (iC d),.box (iC s),.roC [.tree (.int .i64 (n:Int)),.tree (.slice (A0b es)),.tree (.int .i64 (q:Int)),.ref 2 1 0 n n,.ref 3 1 0 n n,.tree (.int .i64 0)],.box [.slice (A1m A) .none]]) (fun v=>v≤n) (fun v=>n-v) (0) (hk:=A0s.headL 6 58 [0,2,4,21,22,23] (zV3 @A0o @A0j @A0r)) (h0:=?_) (round:=fun v hI=>?_)
   ·exact Nat.zero_le _
   ·have hv:v≤n:=hI
    clear hI
    by_cases hvl:v<n
    ·have hvI:(v:Int)<(n:Int):=by omega
     have hg:=A4z (A1T (R:=A) (i:=v) (by omega))
     have hds:=A1J (A0u (d:=d) (i:=v) (by omega))
     have hJv:=hJ d s A v hd hs hAl hvl
     have hT:=B0M es d A v
     have hj1:=hjp v hvl
     have hj2:=hjn v
     have hdb:=hb1 v
     have ht0:=(B1X (es:=es) (d:=d) (A:=A) v fun u hu=>hjp u (by omega)).1
     clear hF hst b6 hdec ht1 hjn hjp hU
     generalize jnS es A v=jv at*
     generalize hnx:minS es d A (v+1)=T1 at*
     generalize minS es d A v=T0 at*
     generalize d.getD v 0=dv at*
     cases hA:A.getD v false with
     | false=>
      rw [hA] at hT hg
      rw [if_neg (by simp)] at hT
      refine zR (zc @hvI (zc @hg (zc @A0F (zc @hd (zc @A0V (zc @hAl (zc @Nat.zero_add trivial))))))) trivial trivial ?_
      refine ⟨v+1,A0s.headF 6 58 [0,2,4,21,22,23] (zc @hnx (zc @hT trivial)) (zV3 @A0o @A0j @A0r),?_,?_⟩
      ·exact hvl
      ·omega
     | true=>
      rw [hA] at hT hg
      simp only [true_and] at hT
      by_cases hjv:0<jv
      ·have hjv2:jv>0:=hjv
       have hjz:jv≠0:=by omega
       have hc:=A7j (a:=dv) (show 1≤jv by omega) (hj1 hA)
       rw [if_pos hjv] at hT
       by_cases hz:T0=0
       ·rw [if_pos (.inl hz)] at hT
        refine zJ trivial (zc @hvI (zc @hg (zc @hds (zc @hjv (zc @hz (zc @hjz (zc @A0F (zc @hd (zc @A0V (zc @hAl (zc @Nat.zero_add trivial))))))))))) trivial (zc hJv trivial) trivial ?_
        refine ⟨v+1,A0s.headF 6 58 [0,2,4,21,22,23] (zc @hnx (zc @hT trivial)) (zV3 @A0o @A0j @A0r),?_,?_⟩
        ·exact hvl
        ·omega
       ·by_cases hlt:dv.tdiv jv<T0
        ·rw [if_pos (.inr hlt)] at hT
         refine zJ trivial (zc @hvI (zc @hg (zc @hds (zc @hjv (zc @hz (zc @hlt (zc @hjz (zc @A0F (zc @hd (zc @A0V (zc @hAl (zc @Nat.zero_add trivial)))))))))))) trivial (zc hJv trivial) trivial ?_
         refine ⟨v+1,A0s.headF 6 58 [0,2,4,21,22,23] (zc @hnx (zc @hT trivial)) (zV3 @A0o @A0j @A0r),?_,?_⟩
         ·exact hvl
         ·omega
        ·rw [if_neg (by rintro (q1 | q1); exact hz q1; exact hlt q1)] at hT
         refine zJ trivial (zc @hvI (zc @hg (zc @hds (zc @hjv (zc @hz (zc @hlt (zc @hjz (zc @A0F (zc @hd (zc @A0V (zc @hAl (zc @Nat.zero_add trivial)))))))))))) trivial (zc hJv trivial) trivial ?_
         refine ⟨v+1,A0s.headF 6 58 [0,2,4,21,22,23] (zc @hnx (zc @hT trivial)) (zV3 @A0o @A0j @A0r),?_,?_⟩
         ·exact hvl
         ·omega
      ·rw [if_neg hjv] at hT
       refine zJ trivial (zc @hvI (zc @hg (zc @hjv (zc @A0F (zc @hd (zc @A0V (zc @hAl (zc @Nat.zero_add trivial)))))))) trivial (zc hJv trivial) trivial ?_
       refine ⟨v+1,A0s.headF 6 58 [0,2,4,21,22,23] (zc @hnx (zc @hT trivial)) (zV3 @A0o @A0j @A0r),?_,?_⟩
       ·exact hvl
       ·omega
    ·have hnl: ¬(v:Int)<(n:Int):=by omega
     have ev:v=n:=by omega
     rw [ev]
     rw [ev] at hnl
     clear hU hjp hjn hb1 hb2
     generalize minS es d A n=T at*
     refine zJ trivial (zc @hnl trivial) trivial (zc hF trivial) trivial ?_
     refine ⟨(A1t es T A n d,A1q T A n s),A0s.headN 5 58 [0] (zV3 @A0o @A0j @A0r),?_,?_⟩
     ·exact ⟨hst,b6⟩
     ·exact hdec
end Go.Proofs.Ytdhfgihnoimoaaa
