/- A part of the proof. -/
import Derived.Test.YtdhfgihnoimoaaaPart15
import Derived.Test.YtdhfgihnoimoaaaPart14
import Derived.Test.YtdhfgihnoimoaaaLayerC
import Derived.Test.YtdhfgihnoimoaaaPart13
set_option linter.all false
set_option maxHeartbeats 4000000
set_option maxRecDepth 100000
namespace Go.Proofs.Ytdhfgihnoimoaaa
open Go.Sp
structure PermL (n:Nat) (l:List Int):Prop where
 len:l.length=n
 rng: ∀x,x∈l→0≤x∧x<n
 nd:l.Nodup
def nrm (F:Int→Int) (x:E):E:=⟨min (F x.a) (F x.b),max (F x.a) (F x.b),x.m⟩
structure Ren (g h:G) (n:Nat) (F:Int→Int):Prop where
 c:checkG g=0
 nn:g.n=n
 c':checkG h=0
 nn':h.n=n
 rng: ∀v:Int,0≤v∧v<n→0≤F v∧F v<n
 inj: ∀u v:Int,0≤u∧u<n→0≤v∧v<n→F u=F v→u=v
 perm:h.es.Perm (g.es.map (nrm F))
set_option maxHeartbeats 1000000
def A5o (A:Nat→Bool) (v:Nat):Int:=if A v=true then 1 else 0
def outA (n:Nat) (M:Nat→Nat→Int) (A:Nat→Bool) (v:Nat):Int:=sumR (fun u=>if A u=true then 0 else M v u) n
def inA (n:Nat) (M:Nat→Nat→Int) (A:Nat→Bool) (v:Nat):Int:=sumR (fun u=>if A u=true then M v u else 0) n
section
variable {n:Nat} {M:Nat→Nat→Int}
theorem A6t (t:Int) (A:Nat→Bool) (v:Nat):lap n M (fun u=>t*A5o A u) v=if A v=true then t*outA n M A v else-(t*inA n M A v):=by
 unfold lap A5o
 cases h:A v with
 | true=>
  rw [if_pos rfl]
  unfold outA
  rw [←A4G]
  refine A0k fun u _=> ?_
  (try dsimp only)
  rw [h,if_pos rfl]
  cases A u<;>simp [Int.mul_comm]
 | false=>
  rw [if_neg (by simp)]
  unfold inA
  rw [←A4G]
  have:sumR (fun u=>M v u*(t*(if A v=true then 1 else 0)-t*if A u=true then 1 else 0)) n=sumR (fun u=> -1*(t*if A u=true then M v u else 0)) n:=A0k fun u _=>by
   rw [h,if_neg (by simp)]
   cases A u
   ·simp
   ·simp only [if_true,Int.mul_zero,Int.zero_sub,Int.mul_one,Int.mul_neg]; rw [Int.mul_comm t]; omega
  rw [this,A4G]; omega
theorem A6u (hM:Mult n M) (A:Nat→Bool) (v:Nat):0≤inA n M A v:=A0W fun u _=>by have:=hM.pos v u; split<;>omega
theorem B9b (hM:Mult n M) (A:Nat→Bool) {u v:Nat} (hu:u<n) (hA:A u=true):M v u≤inA n M A v:=by
 have:=A0X (f:=fun u=>if A u=true then M v u else 0) (n:=n) (fun i _=>by have:=hM.pos v i; split<;>omega) hu
 rwa [if_pos hA] at this
theorem B8o (hM:Mult n M) {D s:Nat→Int} {q:Nat} (hq:q<n) (hw: ∀v,v<n→v≠q→0≤D v-lap n M s v) {P:Int} (hP:sumR (fun v=>if v=q then 0 else max 0 (D v)) n≤P) {c:Int} (hc:s q≤c) (hex: ∃v,v<n∧c<s v):
  ∃v,v<n∧c<s v∧s v≤c+P:=by
 obtain ⟨v0,hv0,hcv0⟩:=hex
 obtain ⟨v,u,hv,hu,hSv,hSu,hm⟩:=hM.con (fun v=>decide (c<s v)) ⟨v0,hv0,decide_eq_true hcv0⟩ ⟨q,hq,decide_eq_false (by omega)⟩
 rw [decide_eq_true_eq] at hSv
 rw [decide_eq_false_iff_not] at hSu
 refine ⟨v,hv,hSv,?_⟩
 have e1:sumR (fun v=>if c<s v then lap n M s v else 0) n≤P:=by
  refine Int.le_trans (A1s fun v hv=> ?_) hP
  split
  ·have hne:v≠q:=by rintro rfl; omega
   have:=hw v hv hne
   rw [if_neg hne]
   have:=Int.le_max_right 0 (D v)
   omega
  ·split
   ·exact Int.le_refl _
   ·exact Int.le_max_left _ _
 have e2:sumR (fun v=>if c<s v then lap n M s v else 0) n=sumR (fun v=>sumR (fun u=>if c<s v∧ ¬c<s u then M v u*(s v-s u) else 0) n) n:=by
  have h1:sumR (fun v=>if c<s v then lap n M s v else 0) n=sumR (fun v=>sumR (fun u=>if c<s v∧ ¬c<s u then M v u*(s v-s u) else 0) n+sumR (fun u=>if c<s v∧c<s u then M v u*(s v-s u) else 0) n) n:=A0k fun v _=>by
   rw [←A1g]
   split
   ·rename_i h
    unfold lap
    refine A0k fun u _=> ?_
    by_cases h2:c<s u
    ·rw [if_neg (fun q=>q.2 h2),if_pos ⟨h,h2⟩]; omega
    ·rw [if_pos ⟨h,h2⟩,if_neg (fun q=>h2 q.2)]; omega
   ·rename_i h
    rw [A0M fun u _=> ?_]
    rw [if_neg (fun q=>h q.1),if_neg (fun q=>h q.1)]; rfl
  have h2:sumR (fun v=>sumR (fun u=>if c<s v∧c<s u then M v u*(s v-s u) else 0) n) n=sumR (fun v=>sumR (fun u=> -1*if c<s v∧c<s u then M v u*(s v-s u) else 0) n) n:=by
   conv=>lhs; rw [A7R]
   refine A0k fun v _=>A0k fun u _=> ?_
   by_cases h:c<s u∧c<s v
   ·rw [if_pos h,if_pos h.symm,hM.sym u v,Int.neg_mul,Int.one_mul,←Int.mul_neg]; congr 1; omega
   ·rw [if_neg h,if_neg (fun q=>h q.symm)]; rfl
  have h3:sumR (fun v=>sumR (fun u=> -1*if c<s v∧c<s u then M v u*(s v-s u) else 0) n) n= -1*sumR (fun v=>sumR (fun u=>if c<s v∧c<s u then M v u*(s v-s u) else 0) n) n:=by
   rw [←A4G]
   exact A0k fun v _=>by rw [A4G]
  rw [h1,A1g]
  omega
 have nn: ∀v u,v<n→u<n→0≤(if c<s v∧ ¬c<s u then M v u*(s v-s u) else 0):=fun v u _ _=>by
  split
  ·exact Int.mul_nonneg (hM.pos v u) (by omega)
  ·exact Int.le_refl _
 have e3:(if c<s v∧ ¬c<s u then M v u*(s v-s u) else 0)≤sumR (fun u=>if c<s v∧ ¬c<s u then M v u*(s v-s u) else 0) n:=A0X (f:=fun u=>if c<s v∧ ¬c<s u then M v u*(s v-s u) else 0) (fun i hi=>nn v i hv hi) hu
 have e4:sumR (fun u=>if c<s v∧ ¬c<s u then M v u*(s v-s u) else 0) n≤sumR (fun v=>sumR (fun u=>if c<s v∧ ¬c<s u then M v u*(s v-s u) else 0) n) n:=A0X (f:=fun v=>sumR (fun u=>if c<s v∧ ¬c<s u then M v u*(s v-s u) else 0) n) (fun i hi=>A0W fun j hj=>nn i j hi hj) hv
 rw [if_pos ⟨hSv,hSu⟩] at e3
 have e5:1*(s v-s u)≤M v u*(s v-s u):=Int.mul_le_mul_of_nonneg_right hm (by omega)
 omega
theorem A6I {p r:Nat→Bool}: ∀{l:List Nat},(∀x,x∈l→p x=true→r x=true)→(∃x,x∈l∧r x=true∧p x=false)→l.countP p<l.countP r
 | [],_,⟨x,hx,_⟩=>by cases hx
 | a::l,h,⟨x,hx,h1,h2⟩=>by
  rw [List.countP_cons,List.countP_cons]
  have hle:l.countP p≤l.countP r:=List.countP_mono_left fun y hy hp=>h y (by simp [hy]) hp
  rcases List.mem_cons.1 hx with rfl | hx
  ·rw [h1,h2]; simp; omega
  ·have:=A6I (l:=l) (fun y hy=>h y (by simp [hy])) ⟨x,hx,h1,h2⟩
   have ha:=h a (by simp)
   cases hp:p a with
   | true=>rw [ha hp]; simp; omega
   | false=>cases r a<;>simp<;>omega
theorem B1J (hM:Mult n M) {D s:Nat→Int} {q:Nat} (hq:q<n) (hw: ∀v,v<n→v≠q→0≤D v-lap n M s v) {P:Int} (hP:sumR (fun v=>if v=q then 0 else max 0 (D v)) n≤P): ∀v,v<n→s v≤s q+n*P:=by
 have hP0:0≤P:=by
  refine Int.le_trans (A0W fun v _=> ?_) hP
  (try dsimp only); split
  ·exact Int.le_refl _
  ·exact Int.le_max_left _ _
 have key: ∀k:Nat,k≤n→(List.range n).countP (fun v=>decide (s q+k*P<s v))+k≤n∨(List.range n).countP (fun v=>decide (s q+k*P<s v))=0:=by
  intro k
  induction k with
  | zero=>intro _; left; exact Nat.le_trans (Nat.add_le_add_right List.countP_le_length 0) (by simp)
  | succ k ih=>
   intro hk
   by_cases hx: ∃v,v<n∧s q+k*P<s v
   ·obtain ⟨v,hv,h1,h2⟩:=B8o hM hq hw hP (c:=s q+k*P) (by have:=Int.mul_nonneg (show 0≤(k:Int) by omega) hP0; omega) hx
    have e:((k+1:Nat):Int)*P=k*P+P:=by rw [Int.natCast_add,Int.add_mul]; simp
    have:=A6I (p:=fun v=>decide (s q+(k+1:Nat)*P<s v)) (r:=fun v=>decide (s q+k*P<s v)) (l:=List.range n) (fun x _ hp=>by
     rw [decide_eq_true_eq] at hp ⊢; omega) ⟨v,List.mem_range.2 hv,decide_eq_true h1,decide_eq_false (by omega)⟩
    left
    rcases ih (by omega) with h | h<;>omega
   ·right
    rw [List.countP_eq_zero]
    intro v hv
    rw [decide_eq_true_eq]
    have e:((k+1:Nat):Int)*P=k*P+P:=by rw [Int.natCast_add,Int.add_mul]; simp
    intro hlt
    exact hx ⟨v,List.mem_range.1 hv,by omega⟩
 intro v hv
 rcases key n (Nat.le_refl _) with h | h
 ·have h0:(List.range n).countP (fun v=>decide (s q+n*P<s v))=0:=by omega
  rw [List.countP_eq_zero] at h0
  have:=h0 v (List.mem_range.2 hv)
  rw [decide_eq_true_eq] at this; omega
 ·rw [List.countP_eq_zero] at h
  have:=h v (List.mem_range.2 hv)
  rw [decide_eq_true_eq] at this; omega
def A1S (n:Nat) (M:Nat→Nat→Int) (q:Nat) (D:Nat→Int):Prop:=(∀v,v<n→v≠q→0≤D v)∧ ∀A:Nat→Bool,A q=false→(∃v,v<n∧A v=true)→ ∃v,v<n∧A v=true∧D v<outA n M A v
theorem B1K (hM:Mult n M) {q:Nat} {D:Nat→Int} (h: ∀v,v<n→v≠q→0≤D v) {A:Nat→Bool} {t:Int} (ht:0≤t) (hl: ∀v,v<n→A v=true→t*outA n M A v≤D v): ∀v,v<n→v≠q→0≤D v-lap n M (fun u=>t*A5o A u) v:=fun v hv hne=>by
 rw [A6t]
 split
 ·rename_i hA; have:=hl v hv hA; omega
 ·have:=Int.mul_nonneg ht (A6u hM A v)
  have:=h v hv hne
  omega
theorem B6D (hM:Mult n M) {q:Nat} (hq:q<n) (D:Nat→Int): ∀(k:Nat) (s:Nat→Int),(∀v,v<n→v≠q→0≤D v-lap n M s v)→s q=0→n*(n*sumR (fun v=>if v=q then 0 else max 0 (D v)) n)-sumR s n≤k→ ∃s',A1S n M q (fun v=>D v-lap n M s' v):=by
 intro k
 induction k with
 | zero=>
  intro s hw hs hk
  refine ⟨s,hw,fun A hAq hA=> ?_⟩
  refine Classical.byContradiction fun hx=> ?_
  have hl: ∀v,v<n→A v=true→1*outA n M A v≤D v-lap n M s v:=fun v hv hAv=>by
   have: ¬D v-lap n M s v<outA n M A v:=fun hlt=>hx ⟨v,hv,hAv,hlt⟩
   omega
  have hw':=B1K hM (D:=fun v=>D v-lap n M s v) hw (t:=1) (by omega) hl
  have hg:=B1J hM hq (D:=D) (s:=fun u=>s u+1*A5o A u) (fun v hv hne=>by have:=hw' v hv hne; rw [A6q]; (try dsimp only at this); omega) (Int.le_refl _)
  have h0:s q+1*A5o A q=0:=by unfold A5o; rw [hAq,hs]; rfl
  (try dsimp only at hg)
  rw [h0] at hg
  have hsum:sumR (fun u=>s u+1*A5o A u) n≤n*(0+n*sumR (fun v=>if v=q then 0 else max 0 (D v)) n):=by
   rw [←A1H]; exact A1s hg
  rw [A1g] at hsum
  obtain ⟨v,hv,hAv⟩:=hA
  have h1:=A0X (f:=fun u=>1*A5o A u) (n:=n) (fun i _=>by (try dsimp only); unfold A5o; split<;>omega) hv
  have h2:1*A5o A v=1:=by unfold A5o; rw [if_pos hAv]; rfl
  (try dsimp only at h1)
  rw [Int.zero_add] at hsum
  omega
 | succ k ih=>
  intro s hw hs hk
  by_cases hr:A1S n M q (fun v=>D v-lap n M s v)
  ·exact ⟨s,hr⟩
  ·have: ∃A:Nat→Bool,A q=false∧(∃v,v<n∧A v=true)∧ ∀v,v<n→A v=true→outA n M A v≤D v-lap n M s v:=by
    refine Classical.byContradiction fun hx=>hr ⟨hw,fun A h1 h2=> ?_⟩
    refine Classical.byContradiction fun h3=>hx ⟨A,h1,h2,fun v hv hA=> ?_⟩
    have: ¬D v-lap n M s v<outA n M A v:=fun hlt=>h3 ⟨v,hv,hA,hlt⟩
    omega
   obtain ⟨A,hAq,⟨v,hv,hAv⟩,hl⟩:=this
   have hw':=B1K hM (D:=fun v=>D v-lap n M s v) hw (t:=1) (by omega) (fun v hv hA=>by have:=hl v hv hA; (try dsimp only); omega)
   refine ih (fun u=>s u+1*A5o A u) (fun v hv hne=>by have:=hw' v hv hne; rw [A6q]; (try dsimp only at this); omega) (by (try dsimp only); unfold A5o; rw [hAq,hs]; rfl) ?_
   rw [A1g]
   have h1:=A0X (f:=fun u=>1*A5o A u) (n:=n) (fun i _=>by (try dsimp only); unfold A5o; split<;>omega) hv
   have h2:1*A5o A v=1:=by unfold A5o; rw [if_pos hAv]; rfl
   (try dsimp only at h1)
   omega
theorem B39 (hM:Mult n M) {q:Nat} (hq:q<n): ∀k,1≤k→k≤n→ ∃L:List Nat,L.length=k∧L.Nodup∧(∀v,v∈L→v<n)∧L[0]? =some q∧ ∀i v,1≤i→L[i]? =some v→ ∃u,u∈L.take i∧1≤M v u:=by
 intro k
 induction k with
 | zero=>intro h; omega
 | succ k ih=>
  intro _ hk
  rcases Nat.eq_zero_or_pos k with h0 | h0
  ·subst h0
   exact ⟨[q],rfl,by simp,by simpa using hq,rfl,fun i v hi hv=>by have:=(List.getElem?_eq_some_iff.1 hv).1; simp at this; omega⟩
  ·obtain ⟨L,l1,l2,l3,l4,l5⟩:=ih h0 (by omega)
   have hout: ∃v,v<n∧v∉L:=by
    refine Classical.byContradiction fun hx=> ?_
    have:=List.Nodup.length_le_of_subset (l₁:=List.range n) (l₂:=L) List.nodup_range fun v hv=>Classical.byContradiction fun h=>hx ⟨v,List.mem_range.1 hv,h⟩
    rw [List.length_range] at this; omega
   obtain ⟨w,hw,hwL⟩:=hout
   obtain ⟨u,v,hu,hv,h1,h2,h3⟩:=hM.con (fun v=>decide (v∈L)) ⟨q,hq,decide_eq_true (List.mem_of_getElem? l4)⟩ ⟨w,hw,decide_eq_false hwL⟩
   rw [decide_eq_true_eq] at h1
   rw [decide_eq_false_iff_not] at h2
   refine ⟨L++[v],by simp [l1],List.nodup_append.2 ⟨l2,by simp,fun a ha b hb=>by simp at hb; subst hb; rintro rfl; exact h2 ha⟩,fun x hx=> ?_,by rw [List.getElem?_append_left (by omega)]; exact l4,fun i x hi hx=> ?_⟩
   ·rcases List.mem_append.1 hx with h | h
    ·exact l3 x h
    ·rw [List.mem_singleton.1 h]; exact hv
   ·by_cases hil:i<L.length
    ·rw [List.getElem?_append_left hil] at hx
     obtain ⟨y,y1,y2⟩:=l5 i x hi hx
     exact ⟨y,by rw [List.take_append_of_le_length (by omega)]; exact y1,y2⟩
    ·have hi2:=(List.getElem?_eq_some_iff.1 hx).1
     simp at hi2
     have hie:i=L.length:=by omega
     subst hie
     rw [List.getElem?_append_right (Nat.le_refl _)] at hx
     simp at hx; subst hx
     exact ⟨u,by rw [List.take_append_of_le_length (Nat.le_refl _),List.take_length]; exact h1,by rw [hM.sym]; exact h3⟩
theorem B1L (hM:Mult n M) {q:Nat} (hq:q<n) (D:Nat→Int): ∃s,∀v,v<n→v≠q→0≤D v-lap n M s v:=by
 obtain ⟨L,l1,l2,l3,l4,l5⟩:=B39 hM hq n (by omega) (Nat.le_refl _)
 have hall: ∀v,v<n→v∈L:=fun v hv=>by
  refine Classical.byContradiction fun h=> ?_
  have:=List.Nodup.length_le_of_subset (l₁:=v::L) (l₂:=List.range n) (List.nodup_cons.2 ⟨h,l2⟩) fun x hx=>by
   rcases List.mem_cons.1 hx with rfl | hx
   ·exact List.mem_range.2 hv
   ·exact List.mem_range.2 (l3 x hx)
  simp at this; omega
 have key: ∀k,k≤n-1→ ∃s,∀i v,n-k≤i→L[i]? =some v→0≤D v-lap n M s v:=by
  intro k
  induction k with
  | zero=>intro _; exact ⟨fun _=>0,fun i v hi hv=>by have:=(List.getElem?_eq_some_iff.1 hv).1; omega⟩
  | succ k ih=>
   intro hk
   obtain ⟨s,hs⟩:=ih (by omega)
   have hlt:n-(k+1)<L.length:=by omega
   obtain ⟨x,hx⟩: ∃x,L[n-(k+1)]? =some x:=⟨_,List.getElem?_eq_getElem hlt⟩
   obtain ⟨u,u1,u2⟩:=l5 _ x (by omega) hx
   let A:Nat→Bool:=fun v=>decide (v∈L.take (n-(k+1)))
   let t:Int:=max 0 (-(D x-lap n M s x))
   have ht:0≤t:=Int.le_max_left _ _
   refine ⟨fun v=>s v+t*A5o A v,fun i v hi hv=> ?_⟩
   have hnA:A v=false:=decide_eq_false fun hm=>by
    obtain ⟨j,hj⟩:=List.mem_iff_getElem?.1 hm
    have hj2:=(List.getElem?_eq_some_iff.1 hj).1
    rw [List.length_take] at hj2
    rw [List.getElem?_take_of_lt (by omega)] at hj
    have:=(List.getElem?_inj (List.getElem?_eq_some_iff.1 hj).1 l2).1 (hj.trans hv.symm)
    omega
   rw [A6q,A6t,if_neg (by rw [hnA]; simp)]
   by_cases hie:i=n-(k+1)
   ·subst hie
    rw [hx] at hv; cases hv
    have h1:=B9b hM A (u:=u) (v:=x) (l3 u (List.mem_of_mem_take u1)) (decide_eq_true u1)
    have h2:t*1≤t*inA n M A x:=Int.mul_le_mul_of_nonneg_left (by omega) ht
    have h3: -(D x-lap n M s x)≤t:=Int.le_max_right _ _
    omega
   ·have h1:=hs i v (by omega) hv
    have h2:=Int.mul_nonneg ht (A6u hM A v)
    omega
 obtain ⟨s,hs⟩:=key (n-1) (Nat.le_refl _)
 refine ⟨s,fun v hv hne=> ?_⟩
 obtain ⟨i,hi⟩:=List.mem_iff_getElem?.1 (hall v hv)
 refine hs i v ?_ hi
 rcases Nat.eq_zero_or_pos i with h0 | h0
 ·subst h0; rw [l4] at hi; cases hi; exact absurd rfl hne
 ·omega
theorem A8G (hM:Mult n M) {q:Nat} (hq:q<n) (D:Nat→Int): ∃R,A5m n M D R∧A1S n M q R:=by
 obtain ⟨s,hs⟩:=B1L hM hq D
 have hw: ∀v,v<n→v≠q→0≤D v-lap n M (fun u=>s u+ -s q) v:=fun v hv hne=>by
  rw [A6q]
  have:lap n M (fun _=> -s q) v=0:=by unfold lap; exact A0M fun u _=>by simp
  rw [this]; have:=hs v hv hne; omega
 obtain ⟨s',hr⟩:=B6D hM hq D (n*(n*sumR (fun v=>if v=q then 0 else max 0 (D v)) n)-sumR (fun u=>s u+ -s q) n).toNat (fun u=>s u+ -s q) hw (by (try dsimp only); omega) (by omega)
 exact ⟨_,⟨s',fun _ _=>rfl⟩,hr⟩
theorem B3A {q:Nat} (hq:q<n) {R:Nat→Int} (hr:A1S n M q R): ∀k,1≤k→k≤n→ ∃L:List Nat,L.length=k∧L.Nodup∧(∀v,v∈L→v<n)∧L[0]? =some q∧ ∀i v,1≤i→L[i]? =some v→R v<inA n M (fun u=>decide (u∈L.take i)) v:=by
 intro k
 induction k with
 | zero=>intro h; omega
 | succ k ih=>
  intro _ hk
  rcases Nat.eq_zero_or_pos k with h0 | h0
  ·subst h0
   exact ⟨[q],rfl,by simp,by simpa using hq,rfl,fun i v hi hv=>by have:=(List.getElem?_eq_some_iff.1 hv).1; simp at this; omega⟩
  ·obtain ⟨L,l1,l2,l3,l4,l5⟩:=ih h0 (by omega)
   have hout: ∃v,v<n∧v∉L:=by
    refine Classical.byContradiction fun hx=> ?_
    have:=List.Nodup.length_le_of_subset (l₁:=List.range n) (l₂:=L) List.nodup_range fun v hv=>Classical.byContradiction fun h=>hx ⟨v,List.mem_range.1 hv,h⟩
    rw [List.length_range] at this; omega
   obtain ⟨w,hw,hwL⟩:=hout
   obtain ⟨v,hv,h1,h2⟩:=hr.2 (fun v=>decide (v∉L)) (decide_eq_false fun h=>h (List.mem_of_getElem? l4)) ⟨w,hw,decide_eq_true hwL⟩
   rw [decide_eq_true_eq] at h1
   refine ⟨L++[v],by simp [l1],List.nodup_append.2 ⟨l2,by simp,fun a ha b hb=>by simp at hb; subst hb; rintro rfl; exact h1 ha⟩,fun x hx=> ?_,by rw [List.getElem?_append_left (by omega)]; exact l4,fun i x hi hx=> ?_⟩
   ·rcases List.mem_append.1 hx with h | h
    ·exact l3 x h
    ·rw [List.mem_singleton.1 h]; exact hv
   ·by_cases hil:i<L.length
    ·rw [List.getElem?_append_left hil] at hx
     rw [List.take_append_of_le_length (by omega)]; exact l5 i x hi hx
    ·have hi2:=(List.getElem?_eq_some_iff.1 hx).1
     simp at hi2
     have hie:i=L.length:=by omega
     subst hie
     rw [List.getElem?_append_right (Nat.le_refl _)] at hx
     simp at hx; subst hx
     rw [List.take_append_of_le_length (Nat.le_refl _),List.take_length]
     have:outA n M (fun v=>decide (v∉L)) v=inA n M (fun u=>decide (u∈L)) v:=A0k fun u _=>by
      by_cases hu:u∈L
      ·rw [if_neg (by simpa using hu),if_pos (by simpa using hu)]
      ·rw [if_pos (by simpa using hu),if_neg (by simpa using hu)]
     rw [←this]; exact h2
theorem B1M {q:Nat} (hq:q<n) {R:Nat→Int} (hr:A1S n M q R) (hd:R q<0): ∃r:Nat→Nat,(∀u v,u<n→v<n→r u=r v→u=v)∧ ∀v,v<n→R v≤B27 n M r v:=by
 obtain ⟨L,l1,l2,l3,l4,l5⟩:=B3A hq hr n (by omega) (Nat.le_refl _)
 have hall: ∀v,v<n→v∈L:=fun v hv=>by
  refine Classical.byContradiction fun h=> ?_
  have:=List.Nodup.length_le_of_subset (l₁:=v::L) (l₂:=List.range n) (List.nodup_cons.2 ⟨h,l2⟩) fun x hx=>by
   rcases List.mem_cons.1 hx with rfl | hx
   ·exact List.mem_range.2 hv
   ·exact List.mem_range.2 (l3 x hx)
  simp at this; omega
 have hget: ∀v,v<n→L[L.idxOf v]? =some v:=fun v hv=>by
  have hlt:=List.idxOf_lt_length_of_mem (hall v hv)
  rw [List.getElem?_eq_getElem hlt,List.getElem_idxOf]
 refine ⟨fun v=>L.idxOf v,fun u v hu hv h=> ?_,fun v hv=> ?_⟩
 ·have h1:=hget u hu
  have h2:=hget v hv
  (try dsimp only at h)
  rw [h,h2] at h1; cases h1; rfl
 ·have hv1:=hget v hv
  unfold B27
  rcases Nat.eq_zero_or_pos (L.idxOf v) with h0 | h0
  ·rw [h0,l4] at hv1; cases hv1
   have:0≤sumR (fun u=>if L.idxOf u<L.idxOf q then M q u else 0) n:=by
    rw [A0M fun u _=>if_neg (by omega)]; exact Int.le_refl _
   (try dsimp only); omega
  ·have h1:=l5 _ v h0 hv1
   have h2:inA n M (fun u=>decide (u∈L.take (L.idxOf v))) v=sumR (fun u=>if L.idxOf u<L.idxOf v then M v u else 0) n:=A0k fun u hu=>by
    have:u∈L.take (L.idxOf v)↔L.idxOf u<L.idxOf v:=by
     constructor
     ·intro hm
      obtain ⟨j,hj⟩:=List.mem_iff_getElem?.1 hm
      have hj2:=(List.getElem?_eq_some_iff.1 hj).1
      rw [List.length_take] at hj2
      rw [List.getElem?_take_of_lt (by omega)] at hj
      have:=(List.getElem?_inj (List.getElem?_eq_some_iff.1 hj).1 l2).1 (hj.trans (hget u hu).symm)
      omega
     ·intro hlt
      have:=hget u hu
      exact List.mem_of_getElem? (i:=L.idxOf u) (by rw [List.getElem?_take_of_lt hlt]; exact this)
    by_cases hm:u∈L.take (L.idxOf v)
    ·rw [if_pos (decide_eq_true hm),if_pos (this.1 hm)]
    ·rw [if_neg (by simpa using hm),if_neg (fun h=>hm (this.2 h))]
   (try dsimp only)
   rw [←h2]; omega
theorem A9x (hM:Mult n M) {q:Nat} (hq:q<n) {R:Nat→Int} (hr:A1S n M q R):win n M R↔0≤R q:=by
 constructor
 ·intro h
  refine Classical.byContradiction fun hx=> ?_
  obtain ⟨r,_,r2⟩:=B1M hq hr (by omega)
  exact A7S hM (by omega) r (h.mono r2)
 ·intro h
  exact A6r.2 ⟨R,A5m.refl R,fun v hv=>by
   by_cases e:v=q
   ·subst e; exact h
   ·exact hr.1 v hv e⟩
end
end Go.Proofs.Ytdhfgihnoimoaaa
