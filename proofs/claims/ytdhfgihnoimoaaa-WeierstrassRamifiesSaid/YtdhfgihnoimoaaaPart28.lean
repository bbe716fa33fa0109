/- A part of the proof. -/
import Derived.Test.YtdhfgihnoimoaaaPart25
import Derived.Test.YtdhfgihnoimoaaaLayerC
set_option linter.all false
set_option maxHeartbeats 4000000
set_option maxRecDepth 100000
namespace Go.Proofs.Ytdhfgihnoimoaaa
open Go.Sp
def A20 (t:Int) (v:Nat) (d:List Int) (x:Int×Int):List Int:=(d.set v (d.getD v 0-x.2*t)).set x.1.toNat ((d.set v (d.getD v 0-x.2*t)).getD x.1.toNat 0+x.2*t)
def B3L (es:List E) (t:Int) (v:Nat) (d:List Int):List Int:=(lnkL es v).foldl (A20 t v) d
def A1t (es:List E) (t:Int) (R:List Bool):Nat→List Int→List Int
 | 0,d=>d
 | k+1,d=>if R.getD k false=true then B3L es t k (A1t es t R k d) else A1t es t R k d
def A1q (t:Int) (R:List Bool):Nat→List Int→List Int
 | 0,s=>s
 | k+1,s=>if R.getD k false=true then (A1q t R k s).set k ((A1q t R k s).getD k 0+t) else A1q t R k s
def bndL (K:Int) (d:List Int):Prop:= ∀i,-K≤d.getD i 0∧d.getD i 0≤K
theorem A3S {K:Int} {d:List Int} (h:bndL K d) (i:Nat) {x:Int} (hx: -K≤x∧x≤K):bndL K (d.set i x):=fun j=>by
 rw [List.getD_eq_getElem?_getD,List.getElem?_set]
 by_cases e:i=j
 ·rw [if_pos e]
  split
  ·exact hx
  ·have:=h i; simp only [Option.getD_none]; omega
 ·rw [if_neg e,←List.getD_eq_getElem?_getD]; exact h j
theorem A0t {K K':Int} {d:List Int} (h:bndL K d) (hk:K≤K'):bndL K' d:=fun i=>by have:=h i; omega
theorem A8a (t:Int) (v:Nat) (d:List Int) (x:Int×Int):(A20 t v d x).length=d.length:=by simp [A20]
theorem A8H (es:List E) (t:Int) (v:Nat) (d:List Int) {j:Nat} {x:Int×Int} (h:(lnkL es v)[j]? =some x):((lnkL es v).take (j+1)).foldl (A20 t v) d=A20 t v (((lnkL es v).take j).foldl (A20 t v) d) x:=by
 rw [take_snoc h,List.foldl_append]; rfl
theorem A45 (t:Int) (v:Nat) (l:List (Int×Int)) (d:List Int):(l.foldl (A20 t v) d).length=d.length:=by
 induction l generalizing d with
 | nil=>rfl
 | cons x l ih=>rw [List.foldl_cons,ih,A8a]
theorem A21 (es:List E) (t:Int) (R:List Bool) (d:List Int): ∀k,(A1t es t R k d).length=d.length
 | 0=>rfl
 | k+1=>by
  unfold A1t
  split
  ·unfold B3L; rw [A45,A21 es t R d k]
  ·exact A21 es t R d k
theorem A2n (t:Int) (R:List Bool) (s:List Int): ∀k,(A1q t R k s).length=s.length
 | 0=>rfl
 | k+1=>by
  unfold A1q
  split
  ·rw [List.length_set,A2n t R s k]
  ·exact A2n t R s k
theorem A8b {m t:Int} (hm:0≤m∧m≤50) (ht:0≤t):0≤m*t∧m*t≤50*t:=⟨Int.mul_nonneg hm.1 ht,Int.mul_le_mul_of_nonneg_right hm.2 ht⟩
theorem B5q {K t:Int} {v:Nat} {d:List Int} {x:Int×Int} (h:bndL K d) (hK:0≤K) (ht:0≤t) (hx:0≤x.2∧x.2≤50):bndL (K+50*t) (d.set v (d.getD v 0-x.2*t))∧bndL (K+100*t) (A20 t v d x):=by
 have hb:=A8b hx ht
 have h1:bndL (K+50*t) (d.set v (d.getD v 0-x.2*t)):=A3S (A0t h (by omega)) v (by have:=h v; omega)
 refine ⟨h1,?_⟩
 exact A3S (A0t h1 (by omega)) _ (by have:=h1 x.1.toNat; omega)
theorem A8c {K t:Int} {v:Nat} (hK:0≤K) (ht:0≤t): ∀{l:List (Int×Int)} {d:List Int},bndL K d→(∀x,x∈l→0≤x.2∧x.2≤50)→bndL (K+100*t*l.length) (l.foldl (A20 t v) d):=by
 intro l
 refine A9v (P:=fun l=> ∀{d:List Int},bndL K d→(∀x,x∈l→0≤x.2∧x.2≤50)→bndL (K+100*t*l.length) (l.foldl (A20 t v) d)) ?_ ?_ l
 ·intro d h _; simpa using h
 ·intro l x ih d h hl
  rw [List.foldl_append,List.foldl_cons,List.foldl_nil,List.length_append,List.length_singleton]
  have h1:=ih h fun y hy=>hl y (by simp [hy])
  have hn:0≤100*t*(l.length:Int):=Int.mul_nonneg (by omega) (by omega)
  have h2:=(B5q (v:=v) (x:=x) h1 (by omega) ht (hl x (by simp))).2
  refine A0t h2 ?_
  rw [Int.natCast_add,Int.mul_add]; simp only [Int.natCast_one,Int.mul_one]; omega
theorem A8d {es:List E} {K t:Int} {R:List Bool} {d:List Int} (hK:0≤K) (ht:0≤t) (hl:es.length≤40) (hm: ∀e,e∈es→0≤e.m∧e.m≤50) (h:bndL K d): ∀k:Nat,bndL (K+4000*t*k) (A1t es t R k d)
 | 0=>by simpa [A1t] using h
 | k+1=>by
  have ih:=A8d (R:=R) hK ht hl hm h k
  have hn:0≤4000*t*(k:Int):=Int.mul_nonneg (by omega) (by omega)
  have e:4000*t*((k+1:Nat):Int)=4000*t*k+4000*t:=by rw [Int.natCast_add,Int.mul_add]; simp
  unfold A1t
  split
  ·have:=A8c (v:=k) (l:=lnkL es k) (by omega) ht ih fun x hx=>by
    obtain ⟨e,he,h1,_⟩:=A2u hx
    have:=hm e he; rw [h1]; exact this
   refine A0t this ?_
   have hll:=A5M es k
   have:100*t*((lnkL es k).length:Int)≤100*t*40:=Int.mul_le_mul_of_nonneg_left (by omega) (by omega)
   omega
  ·exact A0t ih (by omega)
theorem A8e {K t:Int} {R:List Bool} {s:List Int} (hK:0≤K) (ht:0≤t) (h:bndL K s): ∀k:Nat,bndL (K+t*k) (A1q t R k s)
 | 0=>by simpa [A1q] using h
 | k+1=>by
  have ih:=A8e (R:=R) hK ht h k
  have hn:0≤t*(k:Int):=Int.mul_nonneg ht (by omega)
  have e:t*((k+1:Nat):Int)=t*k+t:=by rw [Int.natCast_add,Int.mul_add]; simp
  unfold A1q
  split
  ·exact A3S (A0t ih (by omega)) _ (by have:=ih k; omega)
  ·exact A0t ih (by omega)
theorem A0u {d:List Int} {i:Nat} (h:i<d.length):d[i]? =some (d.getD i 0):=by
 rw [List.getD_eq_getElem?_getD,List.getElem?_eq_getElem h]; rfl
theorem B5r (n q:Nat) (es:List E) (d s:List Int) (R:List Bool) (h1:1≤n) (h12:n≤12) (hd:d.length=n) (hs:s.length=n) (hR:R.length=n) (hl:es.length≤40) (hm: ∀e,e∈es→(0≤e.a∧e.a<n)∧(0≤e.b∧e.b<n)∧0≤e.m∧e.m≤50) (t:Int) (ht:0≤t∧t≤2^30)
  (hdb:bndL (2^40) d) (hsb:bndL (2^40) s) (hfd:bndL 2097152 (A1t es t R n d)) (hfs:bndL 2097152 (A1q t R n s)):
  ACallH Try.prog 106 [.box [.int .i64 (n:Int),.slice (A0b es) .none],.ro [.int .i64 (n:Int),.slice (A0b es)],.box (iC d),.box (iC s),.roC [.tree (.int .i64 (n:Int)),.tree (.slice (A0b es)),.tree (.int .i64 (q:Int)),.ref 2 1 0 n n,.ref 3 1 0 n n,.tree (.int .i64 0)],.box (bC R),.box [.ref 5 1 0 n n]] [.c (.ptr 4 0),.c (.ref 5 1 0 n n),.c (.int .i64 t)] ([.box [.int .i64 (n:Int),.slice (A0b es) .none],.ro [.int .i64 (n:Int),.slice (A0b es)],.box (iC (A1t es t R n d)),.box (iC (A1q t R n s)),.roC [.tree (.int .i64 (n:Int)),.tree (.slice (A0b es)),.tree (.int .i64 (q:Int)),.ref 2 1 0 n n,.ref 3 1 0 n n,.tree (.int .i64 0)],.box (bC R),.box [.ref 5 1 0 n n]]++[.box [.ptr 4 0],.box [.int .i64 t]]) (.tup []):=by
 have hlk:=fun H v h4=>A7Z (H:=H) n q es v h4
 have hI:=fun (v:Nat) (hv:v<n)=>A4y n es v (by omega) (fun e he=>by have:=hm e he; omega) (by omega)
 have hRn:=B6J (d:=R) (by intro e; rw [e] at hR; simp at hR; omega)
 have hne: ∀{x:List Int},x.length=n→iC x≠[]:=fun {x} hx=>A9y (by intro e; rw [e] at hx; simp at hx; omega)
 have hkb: ∀(v:Nat) x,x∈lnkL es v→(0≤x.1∧x.1<n)∧0≤x.2∧x.2≤50:=fun v x hx=>by
  obtain ⟨e,he,e1,_,e2⟩:=A2u hx
  have:=hm e he; rw [e1]
  rcases e2 with ⟨_,e2⟩ | ⟨_,e2⟩<;>(rw [e2]; omega)
 have hbD:=fun k=>A8d (es:=es) (R:=R) (d:=d) (t:=t) (by decide) ht.1 hl (fun e he=>(hm e he).2.2) hdb k
 have hbS:=fun k=>A8e (R:=R) (s:=s) (t:=t) (by decide) ht.1 hsb k
 have hlD:=fun k=>(A21 es t R d k).trans hd
 have hlS:=fun k=>(A2n t R s k).trans hs
 simp only [List.cons_append,List.nil_append]
 refine ACallH.of_body Try.func106 rfl (by kernel_rfl) ?_
 simp only [entry,Try.ntmps106,List.length_cons,List.length_nil,Nat.reduceAdd,Nat.reduceSub,List.replicate_succ,List.replicate_zero,List.cons_append,List.nil_append]
 refine zR (zc @A1z (zc @hR trivial)) trivial trivial ?_
 refine AWp.loopS (α:=Nat) 111 (fun k=>[(3,.c (.ptr 7 0)),(5,.c (.ptr 8 0)),(11,.c (.ref 5 1 0 n n)),(12,.c (.int .i64 (n:Int))),(13,.c (.int .i64 (k:Int)))]) (fun k=>[.box [.int .i64 (n:Int),.slice (A0b es) .none],.ro [.int .i64 (n:Int),.slice (A0b es)],.box (iC (A1t es t R k d)),.box (iC (A1q t R k s)),.roC [.tree (.int .i64 (n:Int)),.tree (.slice (A0b es)),.tree (.int .i64 (q:Int)),.ref 2 1 0 n n,.ref 3 1 0 n n,.tree (.int .i64 0)],.box (bC R),.box [.ref 5 1 0 n n],.box [.ptr 4 0],.box [.int .i64 t]]) (fun k=>k≤n) (fun k=>n-k) (0) (hk:=A0s.headL 9 111 [3,5,11,12,13] (zV3 @A0o @A0j @A0r)) (h0:=?_) (round:=fun k hI=>?_)
 ·exact Nat.zero_le _
 ·have hk:k≤n:=hI
  clear hI
  by_cases hkl:k<n
  ·have hkI:(k:Int)<(n:Int):=by omega
   have hRg:=A1T (R:=R) (i:=k) (by omega)
   have hb:=A6G hRg
   have hD1:A1t es t R (k+1) d=if R.getD k false=true then B3L es t k (A1t es t R k d) else A1t es t R k d:=rfl
   have hS1:A1q t R (k+1) s=if R.getD k false=true then (A1q t R k s).set k ((A1q t R k s).getD k 0+t) else A1q t R k s:=rfl
   have bD:=hbD k
   have bS:=hbS k k
   have lD:=hlD k
   have lS:=hlS k
   have lS1:=hlS (k+1)
   have tk:0≤t*(k:Int)∧t*(k:Int)≤2^30*12:=⟨Int.mul_nonneg ht.1 (by omega),Int.mul_le_mul ht.2 (by omega) (by omega) (by omega)⟩
   have tk4:4000*t*(k:Int)=4000*(t*k):=Int.mul_assoc _ _ _
   generalize hDk:A1t es t R k d=dk at*
   generalize hSk:A1q t R k s=sk at*
   cases hbk:R.getD k false with
   | false=>
    rw [hbk] at hD1 hS1 hb
    rw [if_neg (by simp)] at hD1 hS1
    refine zR (zc @hkI (zc @hb (zc @A1z (zc @hR (zc @Nat.zero_add trivial))))) trivial trivial ?_
    refine ⟨k+1,A0s.headF 9 111 [3,5,11,12,13] (zc @hD1 (zc @hS1 trivial)) (zV3 @A0o @A0j @A0r),?_,?_⟩
    ·exact hkl
    ·omega
   | true=>
    rw [hbk] at hD1 hS1 hb
    rw [if_pos rfl] at hD1 hS1
    have hs0:=A1J (A0u (d:=sk) (i:=k) (by omega))
    have hset:=A2z sk k (sk.getD k 0+t)
    rw [←hS1] at hset
    generalize hS1e:A1q t R (k+1) s=sk1 at*
    generalize sk.getD k 0=sv at*
    have hIk:=hI k hkl
    have hkbk:=hkb k
    repeat' (first|((first|(refine zT ?_;intro K' hK')|(refine zG ?_ ?_<;>(try refine zH ?_)<;>intro hguard<;>(try exact zX)<;>try intro K' hK'))<;>((try simp+contextual only [go_sem,hkI,hb,A1z,hR,A0F,lS,hs0,hset,Int.toNat_natCast,Nat.mul_one,Nat.zero_add,ofT,A3i,A0x,List.map_cons,List.map_nil]);(repeat' first|(with_reducible refine hK' _ _ ?_;clear hK' K')|((with_reducible first|refine ⟨_,_,hlk _ _ rfl,?_⟩|refine ⟨_,hlk _ _ rfl,?_⟩);try simp+contextual only [go_sem,hkI,hb,A1z,hR,A0F,lS,hs0,hset,Int.toNat_natCast,Nat.mul_one,Nat.zero_add,ofT,A3i,A0x,List.map_cons,List.map_nil])|exact zY|with_reducible refine And.intro ?_ ?_|(with_reducible intro hpath;try exact zP)|(refine hK' _ _ ?_;clear hK' K')|fail);try refine zS ?_))|(refine zE ?_;refine hK _ _ ?_;clear hK K)|(refine zN ?_;try refine zS ?_)|refine zA ?_|(refine zB ?_;intro K hK)|(refine zC ?_ ?_<;>(try refine zH ?_)<;>intro hcond<;>try exact zX)|fail)
    have hneJ: ∀l,iC (List.foldl (A20 t k) dk l)≠[]:=fun l=>hne ((A45 t k l dk).trans lD)
    refine AWp.weak (A0s.head (m:=10) (by omega) ((fun t f=>[f,f,f,t,f,t,t,f,f,f,f,t,t,t,f,f,f,f,f,f,f,f,f,f,f,f,f,f,f,f,f,f,t,f,f,f,f,f,f,f,f,f,f,f,f,f,f,f,f,f,f,f,f,f,f,f,f,f,f,f,f,f,f,f,f,f,f,f,f,f,f,f,f,f,f,f,f,f,f,f,f,f,f,f,f,f,f,f,f,f,f,f,f,f,f,f,f,f,f,f,f,f,f,f,f,f,f,f,f,f,f]) true false) (by first | rfl | simp [mask]) (by first | rfl | simp) (by (repeat' (first | exact A0q _ | refine A0n ?_ ?_ | refine A0h ?_ ?_ | exact A0l _ | exact True.intro | (show _<_; omega) | (intro c hc; cases hc; done) | (intro c hc; simp only [List.mem_cons,List.not_mem_nil,or_false] at hc; subst hc; first | exact True.intro | (show _<_; omega)) | (intro c hc; simp only [List.mem_cons,List.not_mem_nil,or_false] at hc; rcases hc with rfl | rfl<;>first | exact True.intro | (show _<_; omega))))) (by (repeat' (first | exact A0q _ | exact A04 _ | exact A0l _ | refine And.intro ?_ ?_ | refine A0n ?_ ?_ | refine A0i ?_ ?_ | refine A0h ?_ ?_ | exact True.intro | exact A0o | exact A0j | exact A0r (by omega) | (show _<_; omega) | exact A01 (fun _=>True.intro) | (intro c hc; cases hc; done) | (intro c hc; simp only [List.mem_cons,List.not_mem_nil,or_false] at hc; subst hc; first | exact True.intro | exact A0o | exact A0j | exact A0r (by omega) | (show _<_; omega)) | (intro c hc; simp only [List.mem_cons,List.not_mem_nil,or_false] at hc; rcases hc with rfl | rfl<;>first | exact True.intro | exact A0o | exact A0j | exact A0r (by omega) | (show _<_; omega)))))) (AWp.rangeFunc (fun j H=>H=[.box [.int .i64 (n:Int),.slice (A0b es) .none],.ro [.int .i64 (n:Int),.slice (A0b es)],.box (iC (((lnkL es k).take j).foldl (A20 t k) dk)),.box (iC sk1),.roC [.tree (.int .i64 (n:Int)),.tree (.slice (A0b es)),.tree (.int .i64 (q:Int)),.ref 2 1 0 n n,.ref 3 1 0 n n,.tree (.int .i64 0)],.box (bC R),.box [.ref 5 1 0 n n],.box [.ptr 4 0],.box [.int .i64 t],.box [.int .i64 (k:Int)]]∧(True)) (fun _ _=>False) 10 rfl (hIk) (A43 rfl) (by omega) (by (repeat' (first | exact A0q _ | refine A0n ?_ ?_ | refine A0h ?_ ?_ | exact A0l _ | exact True.intro | (show _<_; omega) | (intro c hc; cases hc; done) | (intro c hc; simp only [List.mem_cons,List.not_mem_nil,or_false] at hc; subst hc; first | exact True.intro | (show _<_; omega)) | (intro c hc; simp only [List.mem_cons,List.not_mem_nil,or_false] at hc; rcases hc with rfl | rfl<;>first | exact True.intro | (show _<_; omega))))) (by rintro _ _ ⟨rfl,-⟩; simp [hne lS1,hRn,hneJ]) (fun _ _ h=>h.elim) ?_ (fun l j ts H hts hI=> ?_) (fun H hI=> ?_) (fun e H h=>h.elim))
    ·exact ⟨rfl,trivial⟩
    ·obtain ⟨rfl,-⟩:=hI
     obtain ⟨x,hx,rfl⟩:=A2H hts
     have hj:j<(lnkL es k).length:=(List.getElem?_eq_some_iff.1 hx).1
     have hxb:=hkbk x (List.mem_of_getElem? hx)
     have hnx:=A8H es t k dk hx
     have lj:=(A45 t k ((lnkL es k).take j) dk).trans lD
     have hbj:=A8c (v:=k) (K:=2^40+4000*t*k) (t:=t) (by omega) ht.1 (l:=(lnkL es k).take j) bD fun y hy=>(hkbk y (List.mem_of_mem_take hy)).2
     have hll:=A5M es k
     have hjn:100*t*(((lnkL es k).take j).length:Int)≤100*t*40:=Int.mul_le_mul_of_nonneg_left (by rw [List.length_take]; omega) (by omega)
     have hbj2:=A0t (K':=2^50) hbj (by omega)
     generalize ((lnkL es k).take j).foldl (A20 t k) dk=dj at*
     generalize hnj:((lnkL es k).take (j+1)).foldl (A20 t k) dk=dj1 at*
     obtain ⟨u,m⟩:=x
     obtain ⟨⟨u1,u2⟩,hm1⟩:=hxb
     obtain ⟨w,rfl⟩:=Int.eq_ofNat_of_zero_le u1
     unfold A20 at hnx
     have hmt:=A8b hm1 ht.1
     simp only [Int.toNat_natCast] at hnx hmt u2
     have g1:=A1J (A0u (d:=dj) (i:=k) (by omega))
     have b1:=hbj2 k
     generalize dj.getD k 0=dv at*
     obtain ⟨mt,hmte⟩: ∃mt,m*t=mt:=⟨_,rfl⟩
     rw [hmte] at hmt hnx
     have e1:=A2z dj k (dv-mt)
     have hbj3:bndL (2^51) (dj.set k (dv-mt)):=A3S (A0t hbj2 (by omega)) k (by omega)
     have l3:(dj.set k (dv-mt)).length=n:=by rw [List.length_set]; exact lj
     have g2:=A1J (A0u (d:=dj.set k (dv-mt)) (i:=w) (by omega))
     have b2:=hbj3 w
     generalize (dj.set k (dv-mt)).getD w 0=du at*
     have e2:=A2z (dj.set k (dv-mt)) w (du+mt)
     rw [←hnx] at e2
     generalize hdj':dj.set k (dv-mt)=dj' at*
     have hwI:(w:Int)<(n:Int):=u2
     simp only [mask,A53,List.zip_cons_cons,List.zip_nil_right,List.zip_nil_left,List.foldl_cons,List.foldl_nil,List.set_cons_succ,List.set_cons_zero,ofT,A3i,A0x,List.map_cons,List.map_nil,ofT,A3i,toT,A05,A0a,A0g,A09,A5l,tG,A5E,A0m,A37]
     refine zR (zc @hkI (zc @hwI (zc @g1 (zc @g2 (zc @e1 (zc @e2 (zc @hmte (zc @A0F (zc @lj (zc @l3 (zc @Nat.zero_add trivial))))))))))) trivial trivial ?_
     refine ⟨⟨_,_⟩,A0s.head2 (m:=10) (by decide) ((fun t f=>[f,f,f,f,f,f,f,f,f,f,f,f,f,f,f,f,f,f,f,f,f,f,f,f,f,f,f,f,f,f,f,f,f,f,f,f,f,f,f,f,f,f,f,f,f,f,f,f,f,f,f,f,f,f,f,f,f,f,f,f,f,f,f,f,f,f,f,f,f,f,f,f,f,f,f,f,f,f,f,f,f,f,f,f,f,f,f,f,f,f,f,f,f,f,f,f,f,f,f,f,f,f,f,f,f,f,f,f,f,f,f]) true false) rfl rfl (zV3 @A0o @A0j @A0r),?_,?_⟩
     ·rw [hnj]; rfl
     ·trivial
    ·obtain ⟨rfl,-⟩:=hI
     rw [A2G,List.take_length]
     have hfin:(lnkL es k).foldl (A20 t k) dk=A1t es t R (k+1) d:=by rw [hD1]; rfl
     rw [hfin]
     simp only [mask]
     refine zR trivial trivial trivial ?_
     refine ⟨k+1,A0s.headF 9 111 [3,5,11,12,13] (zc @hS1e trivial) (zV3 @A0o @A0j @A0r),?_,?_⟩
     ·exact hkl
     ·omega
  ·have ek:k=n:=by omega
   have hnl: ¬(k:Int)<(n:Int):=by omega
   subst ek
   have lD:=hlD k
   have lS:=hlS k
   generalize A1t es t R k d=dk at*
   generalize A1q t R k s=sk at*
   refine zR (zc @hnl (zc @A0F (zc @lD trivial))) trivial trivial ?_
   refine AWp.loopS (α:=Nat) 111 (fun v=>[(3,.c (.ptr 7 0)),(5,.c (.ptr 8 0)),(64,.c (.int .i64 (k:Int))),(65,.c (.int .i64 (v:Int)))]) (fun v=>[.box [.int .i64 (k:Int),.slice (A0b es) .none],.ro [.int .i64 (k:Int),.slice (A0b es)],.box (iC dk),.box (iC sk),.roC [.tree (.int .i64 (k:Int)),.tree (.slice (A0b es)),.tree (.int .i64 (q:Int)),.ref 2 1 0 k k,.ref 3 1 0 k k,.tree (.int .i64 0)],.box (bC R),.box [.ref 5 1 0 k k],.box [.ptr 4 0],.box [.int .i64 t]]) (fun v=>v≤k) (fun v=>k-v) (0) (hk:=A0s.headL 9 111 [3,5,64,65] (zV3 @A0o @A0j @A0r)) (h0:=?_) (round:=fun v hI=>?_)
   ·exact Nat.zero_le _
   ·have hv:v≤k:=hI
    clear hI
    by_cases hvl:v<k
    ·have hvI:(v:Int)<(k:Int):=by omega
     have g1:=A1J (A0u (d:=dk) (i:=v) (by omega))
     have g2:=A1J (A0u (d:=sk) (i:=v) (by omega))
     have b1:=hfd v
     have b2:=hfs v
     generalize dk.getD v 0=dv at*
     generalize sk.getD v 0=sv at*
     have hmx: ¬(2097152:Int)<max (max (max dv (-dv)) sv) (-sv):=by omega
     refine zR (zc @hvI (zc @g1 (zc @g2 (zc @hmx (zc @A0F (zc @lD (zc @lS (zc @Nat.zero_add trivial)))))))) trivial trivial ?_
     refine ⟨v+1,A0s.headN 9 111 [3,5,64,65] (zV3 @A0o @A0j @A0r),?_,?_⟩
     ·exact hvl
     ·omega
    ·have hvn: ¬(v:Int)<(k:Int):=by omega
     refine zR (zc @hvn trivial) trivial trivial ?_
     simp [A2W,A1M,A0y,A1L,Try.results106]
theorem B6S (n q:Nat) (es:List E) (d s:List Int) (R:List Bool) (h1:1≤n) (h12:n≤12) (hd:d.length=n) (hs:s.length=n) (hR:R.length=n) (hl:es.length≤40) (hm: ∀e,e∈es→(0≤e.a∧e.a<n)∧(0≤e.b∧e.b<n)∧0≤e.m∧e.m≤50) (t:Int) (ht:0≤t∧t≤2^30)
  (hdb:bndL (2^40) d) (hsb:bndL (2^40) s) (hfd:bndL 2097152 (A1t es t R n d)) (hfs:bndL 2097152 (A1q t R n s)):
  ACallH Try.prog 106 [.box [.int .i64 (n:Int),.slice (A0b es) .none],.ro [.int .i64 (n:Int),.slice (A0b es)],.box (iC d),.box (iC s),.roC [.tree (.int .i64 (n:Int)),.tree (.slice (A0b es)),.tree (.int .i64 (q:Int)),.ref 2 1 0 n n,.ref 3 1 0 n n,.tree (.int .i64 0)],.box (bC R),.box [.ref 5 1 0 n n]] [.c (.ptr 4 0),.c (.ref 5 1 0 n n),.c (.int .i64 t)] ([.box [.int .i64 (n:Int),.slice (A0b es) .none],.ro [.int .i64 (n:Int),.slice (A0b es)],.box (iC (A1t es t R n d)),.box (iC (A1q t R n s)),.roC [.tree (.int .i64 (n:Int)),.tree (.slice (A0b es)),.tree (.int .i64 (q:Int)),.ref 2 1 0 n n,.ref 3 1 0 n n,.tree (.int .i64 0)],.box (bC R),.box [.ref 5 1 0 n n]]) (.tup []):=
 (B5r n q es d s R h1 h12 hd hs hR hl hm t ht hdb hsb hfd hfs).trim (Nat.le_refl _) (show A9h _ (.tup []) from fun x hx=>by cases hx) (B7C n q es _ _ R)
theorem B5s (n q:Nat) (es:List E) (d s:List Int) (R:List Bool) (h1:1≤n) (h12:n≤12) (hd:d.length=n) (hs:s.length=n) (hR:R.length=n) (hl:es.length≤40) (hm: ∀e,e∈es→(0≤e.a∧e.a<n)∧(0≤e.b∧e.b<n)∧0≤e.m∧e.m≤50) (t:Int) (ht:0≤t∧t≤2^30)
  (hdb:bndL (2^40) d) (hsb:bndL (2^40) s) (hfd:bndL 2097152 (A1t es t R n d)) (hfs:bndL 2097152 (A1q t R n s)):
  ACallH Try.prog 106 [.box [.int .i64 (n:Int),.slice (A0b es) .none],.ro [.int .i64 (n:Int),.slice (A0b es)],.box (iC d),.box (iC s),.roC [.tree (.int .i64 (n:Int)),.tree (.slice (A0b es)),.tree (.int .i64 (q:Int)),.ref 2 1 0 n n,.ref 3 1 0 n n,.tree (.int .i64 0)],.box [.slice (A1m R) .none]] [.c (.ptr 4 0),.c (.slice (A1m R) .none),.c (.int .i64 t)] ([.box [.int .i64 (n:Int),.slice (A0b es) .none],.ro [.int .i64 (n:Int),.slice (A0b es)],.box (iC (A1t es t R n d)),.box (iC (A1q t R n s)),.roC [.tree (.int .i64 (n:Int)),.tree (.slice (A0b es)),.tree (.int .i64 (q:Int)),.ref 2 1 0 n n,.ref 3 1 0 n n,.tree (.int .i64 0)],.box [.slice (A1m R) .none]]++[.box [.ptr 4 0],.box [.int .i64 t]]) (.tup []):=by
 have hlk:=fun H v h4=>A7Z (H:=H) n q es v h4
 have hI:=fun (v:Nat) (hv:v<n)=>A4y n es v (by omega) (fun e he=>by have:=hm e he; omega) (by omega)
 have hRn:=B6J (d:=R) (by intro e; rw [e] at hR; simp at hR; omega)
 have hne: ∀{x:List Int},x.length=n→iC x≠[]:=fun {x} hx=>A9y (by intro e; rw [e] at hx; simp at hx; omega)
 have hkb: ∀(v:Nat) x,x∈lnkL es v→(0≤x.1∧x.1<n)∧0≤x.2∧x.2≤50:=fun v x hx=>by
  obtain ⟨e,he,e1,_,e2⟩:=A2u hx
  have:=hm e he; rw [e1]
  rcases e2 with ⟨_,e2⟩ | ⟨_,e2⟩<;>(rw [e2]; omega)
 have hbD:=fun k=>A8d (es:=es) (R:=R) (d:=d) (t:=t) (by decide) ht.1 hl (fun e he=>(hm e he).2.2) hdb k
 have hbS:=fun k=>A8e (R:=R) (s:=s) (t:=t) (by decide) ht.1 hsb k
 have hlD:=fun k=>(A21 es t R d k).trans hd
 have hlS:=fun k=>(A2n t R s k).trans hs
 simp only [List.cons_append,List.nil_append]
 refine ACallH.of_body Try.func106 rfl (by kernel_rfl) ?_
 simp only [entry,Try.ntmps106,List.length_cons,List.length_nil,Nat.reduceAdd,Nat.reduceSub,List.replicate_succ,List.replicate_zero,List.cons_append,List.nil_append]
 refine zR (zc @A0V (zc @hR trivial)) trivial trivial ?_
 refine AWp.loopS (α:=Nat) 111 (fun k=>[(3,.c (.ptr 6 0)),(5,.c (.ptr 7 0)),(11,.c (.slice (A1m R) .none)),(12,.c (.int .i64 (n:Int))),(13,.c (.int .i64 (k:Int)))]) (fun k=>[.box [.int .i64 (n:Int),.slice (A0b es) .none],.ro [.int .i64 (n:Int),.slice (A0b es)],.box (iC (A1t es t R k d)),.box (iC (A1q t R k s)),.roC [.tree (.int .i64 (n:Int)),.tree (.slice (A0b es)),.tree (.int .i64 (q:Int)),.ref 2 1 0 n n,.ref 3 1 0 n n,.tree (.int .i64 0)],.box [.slice (A1m R) .none],.box [.ptr 4 0],.box [.int .i64 t]]) (fun k=>k≤n) (fun k=>n-k) (0) (hk:=A0s.headL 8 111 [3,5,11,12,13] (zV3 @A0o @A0j @A0r)) (h0:=?_) (round:=fun k hI=>?_)
 ·exact Nat.zero_le _
 ·have hk:k≤n:=hI
  clear hI
  by_cases hkl:k<n
  ·have hkI:(k:Int)<(n:Int):=by omega
   have hRg:=A1T (R:=R) (i:=k) (by omega)
   have hb:=A4z hRg
   have hD1:A1t es t R (k+1) d=if R.getD k false=true then B3L es t k (A1t es t R k d) else A1t es t R k d:=rfl
   have hS1:A1q t R (k+1) s=if R.getD k false=true then (A1q t R k s).set k ((A1q t R k s).getD k 0+t) else A1q t R k s:=rfl
   have bD:=hbD k
   have bS:=hbS k k
   have lD:=hlD k
   have lS:=hlS k
   have lS1:=hlS (k+1)
   have tk:0≤t*(k:Int)∧t*(k:Int)≤2^30*12:=⟨Int.mul_nonneg ht.1 (by omega),Int.mul_le_mul ht.2 (by omega) (by omega) (by omega)⟩
   have tk4:4000*t*(k:Int)=4000*(t*k):=Int.mul_assoc _ _ _
   generalize hDk:A1t es t R k d=dk at*
   generalize hSk:A1q t R k s=sk at*
   cases hbk:R.getD k false with
   | false=>
    rw [hbk] at hD1 hS1 hb
    rw [if_neg (by simp)] at hD1 hS1
    refine zR (zc @hkI (zc @hb (zc @A0V (zc @hR (zc @Nat.zero_add trivial))))) trivial trivial ?_
    refine ⟨k+1,A0s.headF 8 111 [3,5,11,12,13] (zc @hD1 (zc @hS1 trivial)) (zV3 @A0o @A0j @A0r),?_,?_⟩
    ·exact hkl
    ·omega
   | true=>
    rw [hbk] at hD1 hS1 hb
    rw [if_pos rfl] at hD1 hS1
    have hs0:=A1J (A0u (d:=sk) (i:=k) (by omega))
    have hset:=A2z sk k (sk.getD k 0+t)
    rw [←hS1] at hset
    generalize hS1e:A1q t R (k+1) s=sk1 at*
    generalize sk.getD k 0=sv at*
    have hIk:=hI k hkl
    have hkbk:=hkb k
    repeat' (first|((first|(refine zT ?_;intro K' hK')|(refine zG ?_ ?_<;>(try refine zH ?_)<;>intro hguard<;>(try exact zX)<;>try intro K' hK'))<;>((try simp+contextual only [go_sem,hkI,hb,A0V,hR,A0F,lS,hs0,hset,Int.toNat_natCast,Nat.mul_one,Nat.zero_add,ofT,A3i,A0x,List.map_cons,List.map_nil]);(repeat' first|(with_reducible refine hK' _ _ ?_;clear hK' K')|((with_reducible first|refine ⟨_,_,hlk _ _ rfl,?_⟩|refine ⟨_,hlk _ _ rfl,?_⟩);try simp+contextual only [go_sem,hkI,hb,A0V,hR,A0F,lS,hs0,hset,Int.toNat_natCast,Nat.mul_one,Nat.zero_add,ofT,A3i,A0x,List.map_cons,List.map_nil])|exact zY|with_reducible refine And.intro ?_ ?_|(with_reducible intro hpath;try exact zP)|(refine hK' _ _ ?_;clear hK' K')|fail);try refine zS ?_))|(refine zE ?_;refine hK _ _ ?_;clear hK K)|(refine zN ?_;try refine zS ?_)|refine zA ?_|(refine zB ?_;intro K hK)|(refine zC ?_ ?_<;>(try refine zH ?_)<;>intro hcond<;>try exact zX)|fail)
    have hneJ: ∀l,iC (List.foldl (A20 t k) dk l)≠[]:=fun l=>hne ((A45 t k l dk).trans lD)
    refine AWp.weak (A0s.head (m:=9) (by omega) ((fun t f=>[f,f,f,t,f,t,t,f,f,f,f,t,t,t,f,f,f,f,f,f,f,f,f,f,f,f,f,f,f,f,f,f,t,f,f,f,f,f,f,f,f,f,f,f,f,f,f,f,f,f,f,f,f,f,f,f,f,f,f,f,f,f,f,f,f,f,f,f,f,f,f,f,f,f,f,f,f,f,f,f,f,f,f,f,f,f,f,f,f,f,f,f,f,f,f,f,f,f,f,f,f,f,f,f,f,f,f,f,f,f,f]) true false) (by first | rfl | simp [mask]) (by first | rfl | simp) (by (repeat' (first | exact A0q _ | refine A0n ?_ ?_ | refine A0h ?_ ?_ | exact A0l _ | exact True.intro | (show _<_; omega) | (intro c hc; cases hc; done) | (intro c hc; simp only [List.mem_cons,List.not_mem_nil,or_false] at hc; subst hc; first | exact True.intro | (show _<_; omega)) | (intro c hc; simp only [List.mem_cons,List.not_mem_nil,or_false] at hc; rcases hc with rfl | rfl<;>first | exact True.intro | (show _<_; omega))))) (by (repeat' (first | exact A0q _ | exact A04 _ | exact A0l _ | refine And.intro ?_ ?_ | refine A0n ?_ ?_ | refine A0i ?_ ?_ | refine A0h ?_ ?_ | exact True.intro | exact A0o | exact A0j | exact A0r (by omega) | (show _<_; omega) | exact A01 (fun _=>True.intro) | (intro c hc; cases hc; done) | (intro c hc; simp only [List.mem_cons,List.not_mem_nil,or_false] at hc; subst hc; first | exact True.intro | exact A0o | exact A0j | exact A0r (by omega) | (show _<_; omega)) | (intro c hc; simp only [List.mem_cons,List.not_mem_nil,or_false] at hc; rcases hc with rfl | rfl<;>first | exact True.intro | exact A0o | exact A0j | exact A0r (by omega) | (show _<_; omega)))))) (AWp.rangeFunc (fun j H=>H=[.box [.int .i64 (n:Int),.slice (A0b es) .none],.ro [.int .i64 (n:Int),.slice (A0b es)],.box (iC (((lnkL es k).take j).foldl (A20 t k) dk)),.box (iC sk1),.roC [.tree (.int .i64 (n:Int)),.tree (.slice (A0b es)),.tree (.int .i64 (q:Int)),.ref 2 1 0 n n,.ref 3 1 0 n n,.tree (.int .i64 0)],.box [.slice (A1m R) .none],.box [.ptr 4 0],.box [.int .i64 t],.box [.int .i64 (k:Int)]]∧(True)) (fun _ _=>False) 9 rfl (hIk) (A43 rfl) (by omega) (by (repeat' (first | exact A0q _ | refine A0n ?_ ?_ | refine A0h ?_ ?_ | exact A0l _ | exact True.intro | (show _<_; omega) | (intro c hc; cases hc; done) | (intro c hc; simp only [List.mem_cons,List.not_mem_nil,or_false] at hc; subst hc; first | exact True.intro | (show _<_; omega)) | (intro c hc; simp only [List.mem_cons,List.not_mem_nil,or_false] at hc; rcases hc with rfl | rfl<;>first | exact True.intro | (show _<_; omega))))) (by rintro _ _ ⟨rfl,-⟩; simp [hne lS1,hRn,hneJ]) (fun _ _ h=>h.elim) ?_ (fun l j ts H hts hI=> ?_) (fun H hI=> ?_) (fun e H h=>h.elim))
    ·exact ⟨rfl,trivial⟩
    ·obtain ⟨rfl,-⟩:=hI
     obtain ⟨x,hx,rfl⟩:=A2H hts
     have hj:j<(lnkL es k).length:=(List.getElem?_eq_some_iff.1 hx).1
     have hxb:=hkbk x (List.mem_of_getElem? hx)
     have hnx:=A8H es t k dk hx
     have lj:=(A45 t k ((lnkL es k).take j) dk).trans lD
     have hbj:=A8c (v:=k) (K:=2^40+4000*t*k) (t:=t) (by omega) ht.1 (l:=(lnkL es k).take j) bD fun y hy=>(hkbk y (List.mem_of_mem_take hy)).2
     have hll:=A5M es k
     have hjn:100*t*(((lnkL es k).take j).length:Int)≤100*t*40:=Int.mul_le_mul_of_nonneg_left (by rw [List.length_take]; omega) (by omega)
     have hbj2:=A0t (K':=2^50) hbj (by omega)
     generalize ((lnkL es k).take j).foldl (A20 t k) dk=dj at*
     generalize hnj:((lnkL es k).take (j+1)).foldl (A20 t k) dk=dj1 at*
     obtain ⟨u,m⟩:=x
     obtain ⟨⟨u1,u2⟩,hm1⟩:=hxb
     obtain ⟨w,rfl⟩:=Int.eq_ofNat_of_zero_le u1
     unfold A20 at hnx
     have hmt:=A8b hm1 ht.1
     simp only [Int.toNat_natCast] at hnx hmt u2
     have g1:=A1J (A0u (d:=dj) (i:=k) (by omega))
     have b1:=hbj2 k
     generalize dj.getD k 0=dv at*
     obtain ⟨mt,hmte⟩: ∃mt,m*t=mt:=⟨_,rfl⟩
     rw [hmte] at hmt hnx
     have e1:=A2z dj k (dv-mt)
     have hbj3:bndL (2^51) (dj.set k (dv-mt)):=A3S (A0t hbj2 (by omega)) k (by omega)
     have l3:(dj.set k (dv-mt)).length=n:=by rw [List.length_set]; exact lj
     have g2:=A1J (A0u (d:=dj.set k (dv-mt)) (i:=w) (by omega))
     have b2:=hbj3 w
     generalize (dj.set k (dv-mt)).getD w 0=du at*
     have e2:=A2z (dj.set k (dv-mt)) w (du+mt)
     rw [←hnx] at e2
     generalize hdj':dj.set k (dv-mt)=dj' at*
     have hwI:(w:Int)<(n:Int):=u2
     simp only [mask,A53,List.zip_cons_cons,List.zip_nil_right,List.zip_nil_left,List.foldl_cons,List.foldl_nil,List.set_cons_succ,List.set_cons_zero,ofT,A3i,A0x,List.map_cons,List.map_nil,ofT,A3i,toT,A05,A0a,A0g,A09,A5l,tG,A5E,A0m,A37]
     refine zR (zc @hkI (zc @hwI (zc @g1 (zc @g2 (zc @e1 (zc @e2 (zc @hmte (zc @A0F (zc @lj (zc @l3 (zc @Nat.zero_add trivial))))))))))) trivial trivial ?_
     refine ⟨⟨_,_⟩,A0s.head2 (m:=9) (by decide) ((fun t f=>[f,f,f,f,f,f,f,f,f,f,f,f,f,f,f,f,f,f,f,f,f,f,f,f,f,f,f,f,f,f,f,f,f,f,f,f,f,f,f,f,f,f,f,f,f,f,f,f,f,f,f,f,f,f,f,f,f,f,f,f,f,f,f,f,f,f,f,f,f,f,f,f,f,f,f,f,f,f,f,f,f,f,f,f,f,f,f,f,f,f,f,f,f,f,f,f,f,f,f,f,f,f,f,f,f,f,f,f,f,f,f]) true false) rfl rfl (zV3 @A0o @A0j @A0r),?_,?_⟩
     ·rw [hnj]; rfl
     ·trivial
    ·obtain ⟨rfl,-⟩:=hI
     rw [A2G,List.take_length]
     have hfin:(lnkL es k).foldl (A20 t k) dk=A1t es t R (k+1) d:=by rw [hD1]; rfl
     rw [hfin]
     simp only [mask]
     refine zR trivial trivial trivial ?_
     refine ⟨k+1,A0s.headF 8 111 [3,5,11,12,13] (zc @hS1e trivial) (zV3 @A0o @A0j @A0r),?_,?_⟩
     ·exact hkl
     ·omega
  ·have ek:k=n:=by omega
   have hnl: ¬(k:Int)<(n:Int):=by omega
   subst ek
   have lD:=hlD k
   have lS:=hlS k
   generalize A1t es t R k d=dk at*
   generalize A1q t R k s=sk at*
   refine zR (zc @hnl (zc @A0F (zc @lD trivial))) trivial trivial ?_
   refine AWp.loopS (α:=Nat) 111 (fun v=>[(3,.c (.ptr 6 0)),(5,.c (.ptr 7 0)),(64,.c (.int .i64 (k:Int))),(65,.c (.int .i64 (v:Int)))]) (fun v=>[.box [.int .i64 (k:Int),.slice (A0b es) .none],.ro [.int .i64 (k:Int),.slice (A0b es)],.box (iC dk),.box (iC sk),.roC [.tree (.int .i64 (k:Int)),.tree (.slice (A0b es)),.tree (.int .i64 (q:Int)),.ref 2 1 0 k k,.ref 3 1 0 k k,.tree (.int .i64 0)],.box [.slice (A1m R) .none],.box [.ptr 4 0],.box [.int .i64 t]]) (fun v=>v≤k) (fun v=>k-v) (0) (hk:=A0s.headL 8 111 [3,5,64,65] (zV3 @A0o @A0j @A0r)) (h0:=?_) (round:=fun v hI=>?_)
   ·exact Nat.zero_le _
   ·have hv:v≤k:=hI
    clear hI
    by_cases hvl:v<k
    ·have hvI:(v:Int)<(k:Int):=by omega
     have g1:=A1J (A0u (d:=dk) (i:=v) (by omega))
     have g2:=A1J (A0u (d:=sk) (i:=v) (by omega))
     have b1:=hfd v
     have b2:=hfs v
     generalize dk.getD v 0=dv at*
     generalize sk.getD v 0=sv at*
     have hmx: ¬(2097152:Int)<max (max (max dv (-dv)) sv) (-sv):=by omega
     refine zR (zc @hvI (zc @g1 (zc @g2 (zc @hmx (zc @A0F (zc @lD (zc @lS (zc @Nat.zero_add trivial)))))))) trivial trivial ?_
     refine ⟨v+1,A0s.headN 8 111 [3,5,64,65] (zV3 @A0o @A0j @A0r),?_,?_⟩
     ·exact hvl
     ·omega
    ·have hvn: ¬(v:Int)<(k:Int):=by omega
     refine zR (zc @hvn trivial) trivial trivial ?_
     simp [A2W,A1M,A0y,A1L,Try.results106]
theorem B6T (n q:Nat) (es:List E) (d s:List Int) (R:List Bool) (h1:1≤n) (h12:n≤12) (hd:d.length=n) (hs:s.length=n) (hR:R.length=n) (hl:es.length≤40) (hm: ∀e,e∈es→(0≤e.a∧e.a<n)∧(0≤e.b∧e.b<n)∧0≤e.m∧e.m≤50) (t:Int) (ht:0≤t∧t≤2^30)
  (hdb:bndL (2^40) d) (hsb:bndL (2^40) s) (hfd:bndL 2097152 (A1t es t R n d)) (hfs:bndL 2097152 (A1q t R n s)):
  ACallH Try.prog 106 [.box [.int .i64 (n:Int),.slice (A0b es) .none],.ro [.int .i64 (n:Int),.slice (A0b es)],.box (iC d),.box (iC s),.roC [.tree (.int .i64 (n:Int)),.tree (.slice (A0b es)),.tree (.int .i64 (q:Int)),.ref 2 1 0 n n,.ref 3 1 0 n n,.tree (.int .i64 0)],.box [.slice (A1m R) .none]] [.c (.ptr 4 0),.c (.slice (A1m R) .none),.c (.int .i64 t)] ([.box [.int .i64 (n:Int),.slice (A0b es) .none],.ro [.int .i64 (n:Int),.slice (A0b es)],.box (iC (A1t es t R n d)),.box (iC (A1q t R n s)),.roC [.tree (.int .i64 (n:Int)),.tree (.slice (A0b es)),.tree (.int .i64 (q:Int)),.ref 2 1 0 n n,.ref 3 1 0 n n,.tree (.int .i64 0)],.box [.slice (A1m R) .none]]) (.tup []):=
 (B5s n q es d s R h1 h12 hd hs hR hl hm t ht hdb hsb hfd hfs).trim (Nat.le_refl _) (show A9h _ (.tup []) from fun x hx=>by cases hx) (B7D n q es _ _ R)
end Go.Proofs.Ytdhfgihnoimoaaa
