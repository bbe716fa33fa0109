/- A part of the proof. -/
import Derived.Test.YtdhfgihnoimoaaaPart31
set_option linter.all false
set_option maxHeartbeats 4000000
set_option maxRecDepth 100000
namespace Go.Proofs.Ytdhfgihnoimoaaa
open Go.Sp
set_option maxHeartbeats 1000000
theorem B0F {t:Int} {v:Nat} {d:List Int} {x:Int×Int} (hv:v<d.length) (hx:x.1.toNat<d.length) (hne:x.1.toNat≠v) (w:Nat):
  (A20 t v d x).getD w 0=if w=v then d.getD v 0-x.2*t else if w=x.1.toNat then d.getD w 0+x.2*t else d.getD w 0:=by
 unfold A20
 rw [A08 _ _ _ _ (by rw [List.length_set]; exact hx),A08 _ _ _ _ hv,A08 _ _ _ _ hv]
 by_cases h1:w=x.1.toNat
 ·rw [if_pos h1,if_neg hne,if_neg (by omega),if_pos h1,h1]
 ·rw [if_neg h1,if_neg h1]
theorem B0G {t:Int} {v:Nat} (w:Nat): ∀{l:List (Int×Int)} {d:List Int},v<d.length→(∀x,x∈l→x.1.toNat<d.length∧x.1.toNat≠v∧0≤x.1)→
  (l.foldl (A20 t v) d).getD w 0=if w=v then d.getD v 0-t*joinL (fun _=>true) l else d.getD w 0+t*joinL (fun u=>decide (u=(w:Int))) l
 | [],d,_,_=>by
  simp only [List.foldl_nil,joinL]
  split
  ·rename_i h; subst h; simp
  ·simp
 | x::l,d,hv,hl=>by
  have hx:=hl x (by simp)
  have ih:=B0G (t:=t) (v:=v) w (l:=l) (d:=A20 t v d x) (by rw [A8a]; exact hv) fun y hy=>by rw [A8a]; exact hl y (by simp [hy])
  rw [List.foldl_cons,ih,B0F hv hx.1 hx.2.1,B0F hv hx.1 hx.2.1,A4L,A4L,if_pos rfl,if_pos rfl]
  by_cases h1:w=v
  ·rw [if_pos h1,if_pos h1]
   have e1:(if (true:Bool)=true then x.2 else 0)=x.2:=if_pos rfl
   simp only [if_true,Int.mul_add,Int.mul_comm t x.2]; omega
  ·rw [if_neg h1,if_neg h1,if_neg h1]
   by_cases h2:w=x.1.toNat
   ·rw [if_pos h2,if_pos (decide_eq_true (by omega)),Int.mul_add,Int.mul_comm t x.2]; omega
   ·rw [if_neg h2,if_neg (by rw [decide_eq_true_eq]; omega),Int.zero_add]
section
variable {n:Nat} {es:List E}
theorem B2K (h:EsOk n es) {v:Nat} {x:Int×Int} (hx:x∈lnkL es v):x.1.toNat<n∧x.1.toNat≠v∧0≤x.1:=by
 obtain ⟨e,he,_,hne,hab⟩:=A2u hx
 have:=h.rng e he
 rcases hab with ⟨q1,q2⟩ | ⟨q1,q2⟩<;>omega
theorem B5x (h:EsOk n es) (v:Nat):joinL (fun _=>true) (lnkL es v)=sumR (mulE es v) n:=by
 rw [A3A (n:=n) _ _ h]
 exact A0k fun u _=>if_pos rfl
theorem join_one (h:EsOk n es) (v:Nat) {w:Nat} (hw:w<n):joinL (fun u=>decide (u=(w:Int))) (lnkL es v)=mulE es v w:=by
 rw [A3A (n:=n) _ _ h,←A0L (mulE es v w) w hw]
 refine A0k fun u _=> ?_
 by_cases e:u=w
 ·subst e; rw [if_pos rfl,if_pos (decide_eq_true rfl)]
 ·rw [if_neg e,if_neg (by rw [decide_eq_true_eq]; omega)]
theorem B5y (h:EsOk n es) {t:Int} {v:Nat} (hv:v<n) {d:List Int} (hd:d.length=n) {w:Nat} (hw:w<n):(B3L es t v d).getD w 0=d.getD w 0-t*(if w=v then sumR (mulE es v) n else-mulE es v w):=by
 unfold B3L
 rw [B0G w (by omega) (fun x hx=>by rw [hd]; exact B2K h hx),B5x h,join_one h v hw]
 split
 ·rename_i e; subst e; rfl
 ·rw [Int.mul_neg]; omega
theorem B0H (h:EsOk n es) {t:Int} {R:List Bool} {d:List Int} (hd:d.length=n) {w:Nat} (hw:w<n): ∀k,k≤n→
  (A1t es t R k d).getD w 0=d.getD w 0-t*sumR (fun v=>if R.getD v false=true then (if w=v then sumR (mulE es v) n else-mulE es v w) else 0) k
 | 0,_=>by simp [A1t,sumR]
 | k+1,hk=>by
  have ih:=B0H h (t:=t) (R:=R) hd hw k (by omega)
  unfold A1t
  simp only [sumR]
  by_cases hR:R.getD k false=true
  ·rw [if_pos hR,if_pos hR,B5y h (by omega) (by rw [A21]; exact hd) hw,ih,Int.mul_add]; omega
  ·rw [if_neg hR,if_neg hR,ih,Int.add_zero]
def A3B (R:List Bool):Nat→Bool:=fun v=>R.getD v false
theorem A5T (h:EsOk n es) {t:Int} {R:List Bool} {d:List Int} (hd:d.length=n) {w:Nat} (hw:w<n):(A1t es t R n d).getD w 0=d.getD w 0-lap n (mulE es) (fun u=>t*A5o (A3B R) u) w:=by
 rw [B0H h hd hw n (Nat.le_refl _),A6t]
 have e:sumR (fun v=>if R.getD v false=true then (if w=v then sumR (mulE es v) n else-mulE es v w) else 0) n=if A3B R w=true then outA n (mulE es) (A3B R) w else-inA n (mulE es) (A3B R) w:=by
  have hin:sumR (fun v=>if R.getD v false=true then (if w=v then sumR (mulE es v) n else-mulE es v w) else 0) n=(if A3B R w=true then sumR (mulE es w) n else 0)-inA n (mulE es) (A3B R) w:=by
   have h1:sumR (fun v=>if R.getD v false=true then (if w=v then sumR (mulE es v) n else-mulE es v w) else 0) n=sumR (fun v=>(if v=w then (if A3B R w=true then sumR (mulE es w) n else 0) else 0)-if A3B R v=true then mulE es w v else 0) n:=A0k fun v _=>by
    unfold A3B
    by_cases e:v=w
    ·subst e
     rw [if_pos rfl,if_pos rfl,A7g]
     split<;>simp
    ·rw [if_neg e,if_neg (Ne.symm e),A94 es v w]
     split<;>omega
   rw [h1,A1i,A0L _ w hw]; rfl
  rw [hin]
  split
  ·have:sumR (mulE es w) n=outA n (mulE es) (A3B R) w+inA n (mulE es) (A3B R) w:=by
    unfold outA inA
    rw [←A1g]
    refine A0k fun v _=> ?_
    split<;>omega
   omega
  ·omega
 rw [e]
 split
 ·rfl
 ·rw [Int.mul_neg]
theorem B0I {t:Int} {R:List Bool} {s:List Int} {w:Nat} (hs:s.length=n): ∀k,k≤n→(A1q t R k s).getD w 0=s.getD w 0+if w<k∧R.getD w false=true then t else 0
 | 0,_=>by simp [A1q]
 | k +1,hk=>by
  have ih:=B0I (t:=t) (R:=R) (w:=w) hs k (by omega)
  unfold A1q
  by_cases hR:R.getD k false=true
  ·rw [if_pos hR,A08 _ _ _ _ (by rw [A2n]; omega)]
   by_cases e:w=k
   ·subst e
    rw [if_pos rfl,ih,if_neg (fun q=>by omega),if_pos ⟨by omega,hR⟩]; omega
   ·rw [if_neg e,ih]
    by_cases h2:w<k∧R.getD w false=true
    ·rw [if_pos h2,if_pos ⟨by omega,h2.2⟩]
    ·rw [if_neg h2,if_neg (fun q=>h2 ⟨by omega,q.2⟩)]
  ·rw [if_neg hR,ih]
   by_cases h2:w<k∧R.getD w false=true
   ·rw [if_pos h2,if_pos ⟨by omega,h2.2⟩]
   ·rw [if_neg h2,if_neg (fun q=>h2 ⟨by
     have:=q.1
     by_cases e:w=k
     ·subst e; exact absurd q.2 hR
     ·omega,q.2⟩)]
theorem A5U {t:Int} {R:List Bool} {s:List Int} {w:Nat} (hs:s.length=n) (hw:w<n):(A1q t R n s).getD w 0=s.getD w 0+t*A5o (A3B R) w:=by
 rw [B0I hs n (Nat.le_refl _)]
 unfold A5o A3B
 by_cases h:R.getD w false=true
 ·rw [if_pos ⟨hw,h⟩,if_pos h]; omega
 ·rw [if_neg (fun q=>h q.2),if_neg h]; omega
def Led (n:Nat) (es:List E) (d0 d s:List Int):Prop:= ∀w,w<n→d.getD w 0=d0.getD w 0-lap n (mulE es) (fun u=>s.getD u 0) w
theorem B5z {M:Nat→Nat→Int} {s t:Nat→Int} {w:Nat} (hw:w<n) (h: ∀u,u<n→s u=t u):lap n M s w=lap n M t w:=by
 unfold lap; exact A0k fun u hu=>by rw [h u hu,h w hw]
theorem Led.fire (h:EsOk n es) {d0 d s:List Int} (hl:Led n es d0 d s) (hd:d.length=n) (hs:s.length=n) (t:Int) (R:List Bool):Led n es d0 (A1t es t R n d) (A1q t R n s):=fun w hw=>by
 rw [A5T h hd hw,hl w hw,B5z hw fun u hu=>A5U (t:=t) (R:=R) hs hu,A6q]; omega
theorem B3Q (h:EsOk n es) {t X:Int} {R:List Bool} {d:List Int} (hd:d.length=n) (ht:0≤t) (hX:bndL X d):bndL (X+sizeE es*t) (A1t es t R n d):=fun w=>by
 have hs0:0≤sizeE es:=by
  have:=A3U h 0
  have:=A0W (f:=mulE es 0) (n:=n) fun i _=>A17 h 0 i
  omega
 have hst:=Int.mul_nonneg hs0 ht
 by_cases hw:w<n
 ·rw [A5T h hd hw,A6t]
  have h1:=hX w
  have hv:=A3U h w
  have hle: ∀{y:Int},0≤y→y≤sumR (mulE es w) n→0≤t*y∧t*y≤sizeE es*t:=fun {y} h0 hy=>⟨Int.mul_nonneg ht h0,by rw [Int.mul_comm (sizeE es)]; exact Int.mul_le_mul_of_nonneg_left (by omega) ht⟩
  split
  ·have:=hle (y:=outA n (mulE es) (A3B R) w) (A0W fun u _=>by have:=A17 h w u; split<;>omega) (A1s fun u _=>by have:=A17 h w u; split<;>omega)
   omega
  ·have:=hle (y:=inA n (mulE es) (A3B R) w) (A0W fun u _=>by have:=A17 h w u; split<;>omega) (A1s fun u _=>by have:=A17 h w u; split<;>omega)
   omega
 ·have h0:(A1t es t R n d).getD w 0=0:=by rw [List.getD_eq_getElem?_getD,List.getElem?_eq_none (by rw [A21]; omega)]; rfl
  have h1:=hX w
  rw [h0]; omega
end
set_option maxHeartbeats 1000000
def A15 (far:List Int) (k:Int):List Bool:=far.map fun x=>decide (x<k)
def A1v (es:List E) (far d:List Int) (k:Int):Nat→Int
 | 0=>0
 | v+1=>if far.getD v 0=k∧d.getD v 0<0 then max (A1v es far d k v) ((-(d.getD v 0)+jnB es (A15 far k) v-1).tdiv (jnB es (A15 far k) v)) else A1v es far d k v
theorem A3e (es:List E) (far d:List Int) (k:Int) (v:Nat):A1v es far d k (v+1)=if far.getD v 0=k∧d.getD v 0<0 then max (A1v es far d k v) ((-(d.getD v 0)+jnB es (A15 far k) v-1).tdiv (jnB es (A15 far k) v)) else A1v es far d k v:=rfl
def B1U (n:Nat) (es:List E) (far:List Int) (k:Int) (w:List Int×List Int):List Int×List Int:=
 if 0<A1v es far w.1 k n then (A1t es (A1v es far w.1 k n) (A15 far k) n w.1,A1q (A1v es far w.1 k n) (A15 far k) n w.2) else w
def B1V (n:Nat) (es:List E) (far:List Int):Nat→List Int×List Int→List Int×List Int
 | 0,w=>w
 | k+1,w=>B1V n es far k (B1U n es far ((k:Int)+1) w)
theorem B50 (far:List Int) (k:Int):(A15 far k).length=far.length:=by simp [A15]
theorem B0J {far:List Int} {k:Int} {v:Nat} (hv:v<far.length):(A15 far k).getD v false=decide (far.getD v 0<k):=by
 unfold A15
 rw [List.getD_eq_getElem?_getD,List.getElem?_map,List.getD_eq_getElem?_getD,List.getElem?_eq_getElem hv]; rfl
theorem B1W {a j:Int} (hj:1≤j) (ha:1≤a):1≤(a+j-1).tdiv j∧(a+j-1).tdiv j≤a∧a≤(a+j-1).tdiv j*j:=by
 rw [Int.tdiv_eq_ediv_of_nonneg (by omega)]
 have h1:=Int.mul_ediv_add_emod (a+j-1) j
 have h2:=Int.emod_nonneg (a+j-1) (show j≠0 by omega)
 have h3:=Int.emod_lt_of_pos (a+j-1) (show 0<j by omega)
 refine ⟨Int.le_ediv_of_mul_le (by omega) (by omega),?_,?_⟩
 ·have h4:0≤(a-1)*(j-1):=Int.mul_nonneg (by omega) (by omega)
  have h5:(a-1)*(j-1)=a*j-a-j+1:=by
   rw [Int.sub_mul,Int.mul_sub,Int.one_mul,Int.mul_one]; omega
  have h6:(a+j-1) / j≤(a*j) / j:=Int.ediv_le_ediv (by omega) (by omega)
  rwa [Int.mul_ediv_cancel _ (by omega)] at h6
 ·rw [Int.mul_comm]; omega
section
variable {n:Nat} {es:List E}
theorem B51 (h:EsOk n es) (R:List Bool) (v:Nat):jnB es R v=inA n (mulE es) (A3B R) v:=by
 unfold jnB
 rw [A3A (n:=n) _ _ h]; rfl
theorem B52 (h:EsOk n es) (R:List Bool) (v:Nat):0≤jnB es R v:=by
 rw [B51 h]
 exact A0W fun u _=>by have:=A17 h v u; split<;>omega
theorem B9m (h:EsOk n es) (R:List Bool) (v:Nat):jnB es R v≤sizeE es:=by
 rw [B51 h]
 refine Int.le_trans (A1s fun u _=> ?_) (A3U h v)
 have:=A17 h v u; split<;>omega
theorem B9n (h:EsOk n es) (hm1: ∀e,e∈es→1≤e.m) {R:List Bool} {v:Nat} {y:Int×Int} (hy:y∈lnkL es v) (hR:R.getD y.1.toNat false=true):1≤jnB es R v:=by
 obtain ⟨e,he,e1,hne,hab⟩:=A2u hy
 have hr:=h.rng e he
 have hyn:=B2K h hy
 have h1:=hm1 e he
 rw [B51 h]
 have h2:e.m≤mulE es v y.1.toNat:=B1T h he hne (by rcases hab with ⟨a1,a2⟩ | ⟨a1,a2⟩<;>omega)
 have h3:=A0X (f:=fun u=>if A3B R u=true then mulE es v u else 0) (n:=n) (fun u _=>by have:=A17 h v u; split<;>omega) hyn.1
 have h4:(if A3B R y.1.toNat=true then mulE es v y.1.toNat else 0)=mulE es v y.1.toNat:=if_pos hR
 simp only [h4] at h3
 have h5:inA n (mulE es) (A3B R) v=sumR (fun u=>if A3B R u=true then mulE es v u else 0) n:=rfl
 omega
theorem A3W (es:List E) (far d:List Int) (k:Int): ∀v,0≤A1v es far d k v
 | 0=>Int.le_refl _
 | v+1=>by
  have:=A3W es far d k v
  rw [A3e]; split<;>omega
theorem A8h {far d:List Int} {k X:Int} (hX:bndL X d) (h0:0≤X): ∀m,(∀v,v<m→far.getD v 0=k→1≤jnB es (A15 far k) v)→A1v es far d k m≤X
 | 0,_=>h0
 | v+1,hj=>by
  have h1:=A8h hX h0 v fun u hu=>hj u (by omega)
  rw [A3e]
  split
  ·rename_i hc
   have:=B1W (a:= -(d.getD v 0)) (hj v (by omega) hc.1) (by omega)
   have:=hX v
   omega
  ·exact h1
theorem B0K {far d:List Int} {k:Int}: ∀m,(∀v,v<m→far.getD v 0=k→1≤jnB es (A15 far k) v)→ ∀v,v<m→far.getD v 0=k→d.getD v 0<0→1≤A1v es far d k m∧ -(d.getD v 0)≤A1v es far d k m*jnB es (A15 far k) v
 | 0,_,v,hv,_,_=>by omega
 | m+1,hj,v,hv,hf,hd=>by
  have hjv:=hj v hv hf
  have key: ∀{a b j:Int},a≤b→1≤j→a*j≤b*j:=fun h1 h2=>Int.mul_le_mul_of_nonneg_right h1 (by omega)
  by_cases e:v=m
  ·subst e
   rw [A3e,if_pos ⟨hf,hd⟩]
   have h1:=B1W (a:= -(d.getD v 0)) hjv (by omega)
   have h2:=key (Int.le_max_right (A1v es far d k v) ((-(d.getD v 0)+jnB es (A15 far k) v-1).tdiv (jnB es (A15 far k) v))) hjv
   omega
  ·obtain ⟨h1,h2⟩:=B0K m (fun u hu=>hj u (by omega)) v (by omega) hf hd
   have h3:A1v es far d k m≤A1v es far d k (m+1):=by rw [A3e]; split<;>omega
   have h4:=key h3 hjv
   omega
structure LInv (n:Nat) (es:List E) (far d0:List Int) (k X:Int) (w:List Int×List Int):Prop where
 dl:w.1.length=n
 sl:w.2.length=n
 led:Led n es d0 w.1 w.2
 db:bndL X w.1
 sb:bndL X w.2
 sp: ∀v,0≤w.2.getD v 0
 don: ∀v,v<n→k<far.getD v 0→0≤w.1.getD v 0
theorem B2L (h:EsOk n es) (hm1: ∀e,e∈es→1≤e.m) {q:Nat} {far:List Int} (hf:BFq es n q far []) {k:Int} (hk:1≤k) {v:Nat} (hv:v<n) (hfv:far.getD v 0=k):1≤jnB es (A15 far k) v:=by
 obtain ⟨y,hy,h1,h2⟩:=hf.par v hv (by rintro rfl; have:=hf.q0; omega) (by omega)
 refine B9n h hm1 hy ?_
 rw [B0J (by rw [hf.len]; exact (B2K h hy).1)]
 exact decide_eq_true (by omega)
theorem LInv.step (h:EsOk n es) (hm1: ∀e,e∈es→1≤e.m) {q:Nat} {far d0:List Int} (hf:BFq es n q far []) {k X Z:Int} {w:List Int×List Int} (hI:LInv n es far d0 k X w) (hk:1≤k) (hX:0≤X) (hZ:1≤Z) (hsz:sizeE es≤Z):LInv n es far d0 (k-1) (X+Z*X) (B1U n es far k w)∧0≤A1v es far w.1 k n∧A1v es far w.1 k n≤X:=by
 have hj: ∀v,v<n→far.getD v 0=k→1≤jnB es (A15 far k) v:=fun v hv=>B2L h hm1 hf hk hv
 have ht0:=A3W es far w.1 k n
 have htX:=A8h hI.db hX n hj
 have hge:=B0K (d:=w.1) n hj
 refine ⟨?_,ht0,htX⟩
 have hZX:X≤Z*X:=by
  have:=Int.mul_le_mul_of_nonneg_right hZ hX
  omega
 have hs0:0≤sizeE es:=by
  have:=A3U h 0
  have:=A0W (f:=mulE es 0) (n:=n) fun i _=>A17 h 0 i
  omega
 unfold B1U
 generalize A1v es far w.1 k n=t at*
 split
 ·rename_i htp
  refine ⟨by rw [A21]; exact hI.dl,by rw [A2n]; exact hI.sl,hI.led.fire h hI.dl hI.sl t _,?_,fun i=> ?_,fun i=> ?_,fun v hv hkv=> ?_⟩
  ·refine A0t (B3Q h hI.dl ht0 hI.db) ?_
   have h1:sizeE es*t≤Z*t:=Int.mul_le_mul_of_nonneg_right hsz ht0
   have h2:Z*t≤Z*X:=Int.mul_le_mul_of_nonneg_left htX (by omega)
   omega
  ·have h1:=hI.sb i
   simp only
   by_cases hi:i<n
   ·rw [A5U hI.sl hi]
    unfold A5o
    split<;>omega
   ·rw [List.getD_eq_getElem?_getD,List.getElem?_eq_none (by rw [A2n,hI.sl]; omega)]
    simp only [Option.getD_none]; omega
  ·have h1:=hI.sp i
   simp only
   by_cases hi:i<n
   ·rw [A5U hI.sl hi]
    unfold A5o
    split<;>omega
   ·rw [List.getD_eq_getElem?_getD,List.getElem?_eq_none (by rw [A2n,hI.sl]; omega)]
    simp only [Option.getD_none]; omega
  ·simp only
   have hin:A3B (A15 far k) v=false:=by
    unfold A3B
    rw [B0J (by rw [hf.len]; exact hv)]
    exact decide_eq_false (by omega)
   rw [A5T h hI.dl hv,A6t,if_neg (by rw [hin]; simp),←B51 h]
   have hjp:=Int.mul_nonneg ht0 (B52 h (A15 far k) v)
   by_cases hkk:k<far.getD v 0
   ·have:=hI.don v hv hkk; omega
   ·by_cases hdv:w.1.getD v 0<0
    ·have:=(hge v hv (by omega) hdv).2; omega
    ·omega
 ·rename_i htp
  refine ⟨hI.dl,hI.sl,hI.led,A0t hI.db (by omega),A0t hI.sb (by omega),hI.sp,fun v hv hkv=> ?_⟩
  by_cases hkk:k<far.getD v 0
  ·exact hI.don v hv hkk
  ·refine Classical.byContradiction fun hdv=> ?_
   have:=(hge v hv (by omega) (by omega)).1
   omega
def powZ (Z X:Int):Nat→Int
 | 0=>X
 | k+1=>powZ Z (X+Z*X) k
theorem A60 {Z:Int} (hZ:0≤Z): ∀(k:Nat) {X:Int},0≤X→X≤powZ Z X k
 | 0,X,h=>Int.le_refl _
 | k+1,X,h=>by
  have h1:=Int.mul_nonneg hZ h
  have:=A60 hZ k (X:=X+Z*X) (by omega)
  unfold powZ; omega
theorem LInv.all (h:EsOk n es) (hm1: ∀e,e∈es→1≤e.m) {q:Nat} {far d0:List Int} (hf:BFq es n q far []) {Z:Int} (hZ:1≤Z) (hsz:sizeE es≤Z): ∀(k:Nat) {X:Int} {w:List Int×List Int},LInv n es far d0 k X w→0≤X→LInv n es far d0 0 (powZ Z X k) (B1V n es far k w)
 | 0,X,w,hI,hX=>hI
 | k+1,X,w,hI,hX=>by
  have h1:=(hI.step h hm1 hf (by omega) hX hZ hsz).1
  rw [show ((k+1:Nat):Int)-1=(k:Nat) by omega] at h1
  have h2:=Int.mul_nonneg (show 0≤Z by omega) hX
  have:=LInv.all h hm1 hf hZ hsz k h1 (by omega)
  exact this
end
end Go.Proofs.Ytdhfgihnoimoaaa
