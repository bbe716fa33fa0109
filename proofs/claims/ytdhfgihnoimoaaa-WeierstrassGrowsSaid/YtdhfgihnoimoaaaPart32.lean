/- A part of the proof. -/
import Derived.Test.YtdhfgihnoimoaaaPart21
import Derived.Test.YtdhfgihnoimoaaaPart30
import Derived.Test.YtdhfgihnoimoaaaLayerC
set_option linter.all false
set_option maxHeartbeats 4000000
set_option maxRecDepth 100000
namespace Go.Proofs.Ytdhfgihnoimoaaa
open Go.Sp
set_option maxHeartbeats 1000000
def B4g (M:Nat→Nat→Int) (v:Nat):Nat→List Int→List Int
 | 0,d=>d
 | k+1,d=>if k=v then B4g M v k d else ((B4g M v k d).set k ((B4g M v k d).getD k 0-M k v)).set v (((B4g M v k d).set k ((B4g M v k d).getD k 0-M k v)).getD v 0+M k v)
theorem A7a (M:Nat→Nat→Int) (v:Nat) (d:List Int): ∀k,(B4g M v k d).length=d.length
 | 0=>rfl
 | k+1=>by
  unfold B4g
  split
  ·exact A7a M v d k
  ·rw [List.length_set,List.length_set,A7a M v d k]
theorem B29 {M:Nat→Nat→Int} {v:Nat} {d:List Int} (hv:v<d.length) (hd:M v v=0) (w:Nat): ∀k,k≤d.length→
  (B4g M v k d).getD w 0=if w=v then d.getD v 0+sumR (fun u=>M u v) k else if w<k then d.getD w 0-M w v else d.getD w 0
 | 0,_=>by
  simp only [B4g,sumR]
  split
  ·rename_i h; rw [h]; omega
  ·rw [if_neg (by omega)]
 | k +1,hk=>by
  have ih:=fun w=>B29 hv hd w k (by omega)
  have hl:=A7a M v d k
  unfold B4g
  by_cases hkv:k=v
  ·rw [if_pos hkv,ih]
   simp only [sumR]
   subst hkv
   rw [hd]
   by_cases hw:w=k
   ·rw [if_pos hw,if_pos hw]; omega
   ·rw [if_neg hw,if_neg hw]
    by_cases h2:w<k
    ·rw [if_pos h2,if_pos (by omega)]
    ·rw [if_neg h2,if_neg (by omega)]
  ·rw [if_neg hkv,A0Z _ _ _ _ (by rw [List.length_set,hl]; exact hv),A0Z _ _ _ _ (by rw [hl]; omega),A0Z _ _ _ _ (by rw [hl]; omega),if_neg (show ¬v=k by omega)]
   rw [ih v,ih k,ih w,if_pos rfl,if_neg hkv,if_neg (Nat.lt_irrefl k)]
   simp only [sumR]
   by_cases hw:w=v
   ·rw [if_pos hw,if_pos hw]; omega
   ·rw [if_neg hw,if_neg hw,if_neg hw]
    by_cases h2:w=k
    ·rw [if_pos h2,if_pos (by omega),h2]
    ·rw [if_neg h2]
     by_cases h3:w<k
     ·rw [if_pos h3,if_pos (by omega)]
     ·rw [if_neg h3,if_neg (by omega)]
def B8O (d:List Int):Option Nat:=d.findIdx? fun x=>decide (x<0)
theorem B5p {d:List Int} {v:Nat} (h:B8O d=some v):v<d.length∧d.getD v 0<0:=by
 unfold B8O at h
 obtain ⟨h1,h2,_⟩:=List.findIdx?_eq_some_iff_getElem.1 h
 refine ⟨h1,?_⟩
 rw [List.getD_eq_getElem?_getD,List.getElem?_eq_getElem h1]
 simpa using h2
theorem B5q {d:List Int} (h:B8O d=none) (v:Nat):0≤d.getD v 0:=by
 unfold B8O at h
 rw [List.findIdx?_eq_none_iff] at h
 rw [List.getD_eq_getElem?_getD]
 cases hx:d[v]? with
 | none=>exact Int.le_refl _
 | some x=>have:=h x (List.mem_of_getElem? hx); simpa using this
def B5r (M:Nat→Nat→Int) (n:Nat):Nat→List Int→List Bool→Bool
 | 0,_,_=>false
 | k+1,d,b=>match B8O d with
  | none=>true
  | some v=>if b.all id=true then false else B5r M n k (B4g M v n d) (b.set v true)
section
variable {n:Nat} {M:Nat→Nat→Int}
structure GI (n:Nat) (M:Nat→Nat→Int) (d0:Nat→Int) (U C:Int) (s:Nat→Int) (k:Nat) (d:List Int) (b:List Bool):Prop where
 dl:d.length=n
 bl:b.length=n
 s0: ∀v,0≤s v
 led: ∀v,v<n→d.getD v 0=d0 v-lap n M (fun u=> -s u) v
 mark: ∀v,v<n→b.getD v false=decide (0<s v)
 sum:sumR s n=k
 top: ∀v,v<n→d.getD v 0≤U
 least: ∀t:Nat→Int,(∀u,0≤t u)→(∀v,v<n→0≤d0 v-lap n M (fun u=> -t u) v)→ ∀v,v<n→s v≤t v
 few:(k:Int)≤C+1
theorem A9D (s:Nat→Int) (v:Nat):lap n M (fun u=> -s u) v= -sumR (fun u=>M v u*(s v-s u)) n:=A90 s v
theorem GI.begin {d:List Int} {U C:Int} (hd:d.length=n) (hC:0≤C) (hU: ∀v,v<n→d.getD v 0≤U):GI n M (fun v=>d.getD v 0) U C (fun _=>0) 0 d (List.replicate n false):=by
 have h0: ∀v,lap n M (fun _=> -(0:Int)) v=0:=fun v=>by
  rw [A9D,A0C fun u _=>by simp]; rfl
 refine ⟨hd,by simp,fun _=>Int.le_refl _,fun v hv=>by rw [h0]; omega,fun v hv=> ?_,by rw [A0C fun _ _=>rfl]; rfl,hU,fun t ht _ v _=>ht v,by omega⟩
 rw [List.getD_eq_getElem?_getD,List.getElem?_replicate,if_pos hv]; rfl
theorem GI.low (hM:Mult n M) {d0:Nat→Int} {U C:Int} {s:Nat→Int} {k:Nat} {d:List Int} {b:List Bool} (h:GI n M d0 U C s k d b) (v:Nat) (hv:v<n):sumR d0 n-n*U+U≤d.getD v 0:=by
 have e1:sumR (fun v=>d.getD v 0) n=sumR d0 n:=by
  rw [A0h h.led,A1g,B1D hM]; omega
 have e2:=A0U (f:=fun v=>U-d.getD v 0) (n:=n) (fun i hi=>by have:=h.top i hi; omega) hv
 rw [A1g,A1E,e1] at e2
 omega
theorem GI.bound (hM:Mult n M) {d0:Nat→Int} {U C N:Int} {s:Nat→Int} {k:Nat} {d:List Int} {b:List Bool} (h:GI n M d0 U C s k d b) (hU:0≤U) (hN:0≤N) (hdN: ∀v,v<n→ -N≤d0 v) (hC:n*(n*(n*(U+N)))≤C) {q:Nat} (hq:q<n) (hs:s q=0):(k:Int)≤C:=by
 have hp:sumR (fun v=>if v=q then 0 else max 0 (d.getD v 0+N)) n≤n*(U+N):=by
  rw [←A1E]
  refine A1y fun v hv=> ?_
  have:=h.top v hv
  split<;>omega
 have hg:=B1G hM (D:=fun v=>d.getD v 0+N) (s:=s) hq (fun v hv _=>by
  have h1:=h.led v hv
  rw [A90] at h1
  have h2:=hdN v hv
  omega) hp
 rw [←h.sum]
 have:sumR s n≤n*(n*(n*(U+N))):=by
  rw [←A1E]
  exact A1y fun v hv=>by have:=hg v hv; omega
 omega
theorem GI.step (hM:Mult n M) {d0:Nat→Int} {U C N:Int} {s:Nat→Int} {k:Nat} {d:List Int} {b:List Bool} (h:GI n M d0 U C s k d b) (hU:0≤U) (hN:0≤N) (hdN: ∀v,v<n→ -N≤d0 v) (hC:n*(n*(n*(U+N)))≤C)
  (hval: ∀v,v<n→sumR (M v) n≤U) {q:Nat} (hq:q<n) (hs:s q=0) {v:Nat} (hv:v<n) (hneg:d.getD v 0<0):GI n M d0 U C (fun u=>s u+if u=v then 1 else 0) (k+1) (B4g M v n d) (b.set v true):=by
 have hk:=h.bound hM hU hN hdN hC hq hs
 have hget:=fun w=>B29 (M:=M) (v:=v) (d:=d) (by rw [h.dl]; exact hv) (hM.dia v) w n (by rw [h.dl]; exact Nat.le_refl _)
 have hlap: ∀w,w<n→lap n M (fun u=> -(s u+if u=v then 1 else 0)) w=lap n M (fun u=> -s u) w-(if w=v then sumR (M v) n else-M w v):=fun w hw=>by
  rw [A9D,A9D]
  have e: ∀u,u<n→M w u*(s w+(if w=v then 1 else 0)-(s u+if u=v then 1 else 0))=M w u*(s w-s u)+(if w=v then M w u else 0)-(if u=v then M w v else 0):=fun u _=>by
   by_cases h1:w=v
   ·rw [if_pos h1,if_pos h1]
    by_cases h2:u=v
    ·rw [if_pos h2,if_pos h2,h2,show s w+1-(s v+1)=s w-s v by omega,h1]; omega
    ·rw [if_neg h2,if_neg h2,show s w+1-(s u+0)=(s w-s u)+1 by omega,Int.mul_add]; omega
   ·rw [if_neg h1,if_neg h1]
    by_cases h2:u=v
    ·rw [if_pos h2,if_pos h2,h2,show s w+0-(s v+1)=(s w-s v)+ -1 by omega,Int.mul_add]; omega
    ·rw [if_neg h2,if_neg h2,show s w+0-(s u+0)=(s w-s u) by omega]; omega
  have e2:sumR (fun u=>if w=v then M w u else 0) n=if w=v then sumR (M v) n else 0:=by
   by_cases h1:w=v
   ·rw [if_pos h1,h1]; exact A0h fun u _=>if_pos rfl
   ·simp only [if_neg h1]; exact A0C fun _ _=>rfl
  rw [A0h e,A1g,A1d,A0D _ v hv,e2]
  by_cases h1:w=v
  ·rw [if_pos h1,if_pos h1,h1,hM.dia]; omega
  ·rw [if_neg h1,if_neg h1]; omega
 have hsym:sumR (fun u=>M u v) n=sumR (M v) n:=A0h fun u _=>hM.sym u v
 refine ⟨by rw [A7a]; exact h.dl,by rw [List.length_set]; exact h.bl,fun u=>by have:=h.s0 u; split<;>omega,fun w hw=> ?_,fun w hw=> ?_,?_,fun w hw=> ?_,fun t ht hte w hw=> ?_,by omega⟩
 ·rw [hget,hlap w hw,hsym]
  have h1:=h.led w hw
  by_cases e:w=v
  ·rw [if_pos e,if_pos e,←e]; omega
  ·rw [if_neg e,if_neg e,if_pos hw]; omega
 ·have h1:=h.mark w hw
  rw [List.getD_eq_getElem?_getD,List.getElem?_set,h.bl]
  by_cases e:v=w
  ·rw [if_pos e,if_pos hv]
   have:=h.s0 w
   simp only [Option.getD_some,e,if_true]
   rw [eq_comm,decide_eq_true_eq]; omega
  ·rw [if_neg e,←List.getD_eq_getElem?_getD,h1]
   simp only [if_neg (show ¬w=v by omega),Int.add_zero]
 ·rw [A1d,A0D _ _ hv,h.sum]; omega
 ·rw [hget]
  have h1:=h.top w hw
  have h2:=hM.pos w v
  by_cases e:w=v
  ·rw [if_pos e,hsym]; have:=hval v hv; omega
  ·rw [if_neg e,if_pos hw]; omega
 ·have h1:=h.least t ht hte w hw
  by_cases e:w=v
  ·simp only [if_pos e]
   by_cases hlt:s w<t w
   ·omega
   ·exfalso
    have h2:=h.led w hw
    have h3:=hte w hw
    rw [A9D] at h2 h3
    have h4:sumR (fun u=>M w u*(t w-t u)) n≤sumR (fun u=>M w u*(s w-s u)) n:=A1y fun u hu=>by
     have:=h.least t ht hte u hu
     exact Int.mul_le_mul_of_nonneg_left (by omega) (hM.pos w u)
    rw [←e] at hneg
    omega
  ·simp only [if_neg e]; omega
theorem B3N {b:List Bool} (h:b.all id=true) {v:Nat} (hv:v<b.length):b.getD v false=true:=by
 rw [List.getD_eq_getElem?_getD,List.getElem?_eq_getElem hv]
 exact (List.all_eq_true.1 h) _ (List.getElem_mem hv)
theorem A9E {b:List Bool} (h: ¬b.all id=true): ∃v,v<b.length∧b.getD v false=false:=by
 rw [List.all_eq_true] at h
 simp only [id,Classical.not_forall] at h
 obtain ⟨x,hx,hne⟩:=h
 obtain ⟨i,hi,rfl⟩:=List.mem_iff_getElem.1 hx
 exact ⟨i,hi,by rw [List.getD_eq_getElem?_getD,List.getElem?_eq_getElem hi]; simpa using hne⟩
theorem GI.lost (h0:0<n) {d0:Nat→Int} {U C:Int} {s:Nat→Int} {k:Nat} {d:List Int} {b:List Bool} (h:GI n M d0 U C s k d b) (hb:b.all id=true): ¬win n M d0:=by
 rintro ⟨s1,hs1⟩
 obtain ⟨v0,hv0,hmx⟩:=A6q s1 h0
 have:=h.least (fun u=>if u<n then s1 v0-s1 u else 0) (fun u=>by
  split
  ·rename_i hu; have:=hmx u hu; omega
  ·omega) (fun v hv=>by
  have h1:=hs1 v hv
  have:lap n M (fun u=> -(if u<n then s1 v0-s1 u else 0)) v=lap n M s1 v:=by
   unfold lap
   exact A0h fun u hu=>by simp only [if_pos hv,if_pos hu]; congr 1; omega
  rw [this]; exact h1) v0 hv0
 have h2:=h.mark v0 hv0
 rw [B3N hb (by rw [h.bl]; exact hv0)] at h2
 have h3:=of_decide_eq_true h2.symm
 simp only [if_pos hv0] at this
 omega
theorem B2A (hM:Mult n M) (h0:0<n) {d0:Nat→Int} {U C N:Int} (hU:0≤U) (hN:0≤N) (hdN: ∀v,v<n→ -N≤d0 v) (hC:n*(n*(n*(U+N)))≤C) (hval: ∀v,v<n→sumR (M v) n≤U):
  ∀(f:Nat) (s:Nat→Int) (k:Nat) (d:List Int) (b:List Bool),GI n M d0 U C s k d b→C+1<(f:Int)+k→(B5r M n f d b=true↔win n M d0)
 | 0,s,k,d,b,h,hf=>by have:=h.few; omega
 | f +1,s,k,d,b,h,hf=>by
  unfold B5r
  cases ho:B8O d with
  | none=>
   simp only [true_iff]
   exact ⟨fun u=> -s u,fun v hv=>by rw [←h.led v hv]; exact B5q ho v⟩
  | some v=>
   obtain ⟨h1,h2⟩:=B5p ho
   rw [h.dl] at h1
   simp only
   by_cases hb:b.all id=true
   ·rw [if_pos hb]
    exact iff_of_false (by simp) (h.lost h0 hb)
   ·rw [if_neg hb]
    obtain ⟨q,q1,q2⟩:=A9E hb
    rw [h.bl] at q1
    have hs:s q=0:=by
     have:=h.mark q q1
     rw [q2] at this
     have h3:=of_decide_eq_false this.symm
     have:=h.s0 q
     omega
    exact B2A hM h0 hU hN hdN hC hval f _ (k+1) _ _ (h.step hM hU hN hdN hC hval q1 hs h1 h2) (by omega)
theorem B6W (hM:Mult n M) (h0:0<n) {d:List Int} (hd:d.length=n) {U N:Int} (hU:0≤U) (hN:0≤N) (hdU: ∀v,v<n→d.getD v 0≤U) (hdN: ∀v,v<n→ -N≤d.getD v 0) (hval: ∀v,v<n→sumR (M v) n≤U) {f:Nat} (hf:n*(n*(n*(U+N)))+1<(f:Int)):
  B5r M n f d (List.replicate n false)=true↔win n M (fun v=>d.getD v 0):=
 B2A hM h0 hU hN hdN (Int.le_refl _) hval f _ 0 _ _ (GI.begin hd (Int.mul_nonneg (by omega) (Int.mul_nonneg (by omega) (Int.mul_nonneg (by omega) (by omega)))) hdU) (by omega)
end
set_option maxHeartbeats 1000000
def B5s:Nat→Nat→List (List Int)
 | 0,_=>[]
 | 1,d=>[[(d:Int)]]
 | n+2,d=>(List.range (d+1)).flatMap fun k=>(B5s (n+1) (d-k)).map fun r=>(k:Int)::r
def sumL (l:List Int):Int:=l.foldr (·+ ·) 0
theorem A8c (x:Int) (l:List Int):sumL (x::l)=x+sumL l:=rfl
theorem A5R: ∀{n d:Nat} {l:List Int},l∈B5s (n+1) d↔l.length=n+1∧(∀x,x∈l→0≤x)∧sumL l=d
 | 0,d,l=>by
  simp only [B5s,List.mem_singleton]
  constructor
  ·rintro rfl; exact ⟨rfl,fun x hx=>by rw [List.mem_singleton] at hx; omega,by simp [sumL]⟩
  ·rintro ⟨h1,h2,h3⟩
   match l,h1 with
   | [x],_=>simp [sumL] at h3; rw [h3]
 | n +1,d,l=>by
  simp only [B5s,List.mem_flatMap,List.mem_range,List.mem_map]
  constructor
  ·rintro ⟨k,hk,r,hr,rfl⟩
   obtain ⟨h1,h2,h3⟩:=A5R.1 hr
   refine ⟨by simp [h1],fun x hx=> ?_,by rw [A8c,h3]; omega⟩
   rcases List.mem_cons.1 hx with rfl | hx
   ·omega
   ·exact h2 x hx
  ·rintro ⟨h1,h2,h3⟩
   match l,h1 with
   | x::r,h1=>
    rw [A8c] at h3
    have hx:=h2 x (by simp)
    have hr: ∀y,y∈r→0≤y:=fun y hy=>h2 y (by simp [hy])
    have hs:0≤sumL r:=by
     clear h1 h2 h3
     induction r with
     | nil=>exact Int.le_refl _
     | cons y r ih=>rw [A8c]; have:=hr y (by simp); have:=ih fun z hz=>hr z (by simp [hz]); omega
    refine ⟨x.toNat,by omega,r,A5R.2 ⟨by simpa using h1,hr,by omega⟩,?_⟩
    rw [show (x.toNat:Int)=x by omega]
theorem B0J (x:Int) (r:List Int): ∀k,sumR (fun v=>(x::r).getD v 0) (k+1)=x+sumR (fun v=>r.getD v 0) k
 | 0=>by simp [sumR]
 | k+1=>by
  have:=B0J x r k
  simp only [sumR] at this ⊢
  simp only [List.getD_cons_succ] at this ⊢
  omega
theorem A44: ∀l:List Int,sumR (fun v=>l.getD v 0) l.length=sumL l
 | []=>rfl
 | x::r=>by rw [List.length_cons,B0J,A44 r]; rfl
def B0K (a b:List Int):List Int:=(List.range a.length).map fun i=>a.getD i 0-b.getD i 0
theorem A9F (a b:List Int):(B0K a b).length=a.length:=by simp [B0K]
theorem A7b (a b:List Int) {i:Nat} (hi:i<a.length):(B0K a b).getD i 0=a.getD i 0-b.getD i 0:=by
 unfold B0K
 rw [List.getD_eq_getElem?_getD,List.getElem?_map,List.getElem?_range hi]; rfl
section
variable {n:Nat} {M:Nat→Nat→Int}
open Classical in
noncomputable def B5t (n:Nat) (M:Nat→Nat→Int) (d:List Int) (k:Nat):Option (List Int):=(B5s n k).find? fun l=> !decide (win n M fun v=>(B0K d l).getD v 0)
theorem A8L {d:List Int} (hd:d.length=n) (h0:0<n) {k:Nat}:B5t n M d k=none↔A2D n M (fun v=>d.getD v 0) k:=by
 obtain ⟨m,rfl⟩: ∃m,n=m+1:=⟨n-1,by omega⟩
 unfold B5t
 rw [List.find?_eq_none]
 constructor
 ·intro h E hE hs
  have hl:((List.range (m+1)).map E).length=m+1:=by simp
  have hg: ∀v,v<m+1→((List.range (m+1)).map E).getD v 0=E v:=fun v hv=>by
   rw [List.getD_eq_getElem?_getD,List.getElem?_map,List.getElem?_range hv]; rfl
  have hm:(List.range (m+1)).map E∈B5s (m+1) k:=by
   refine A5R.2 ⟨hl,fun x hx=> ?_,?_⟩
   ·obtain ⟨v,hv,rfl⟩:=List.mem_map.1 hx
    exact hE v (List.mem_range.1 hv)
   ·rw [←A44,hl,←hs]
    exact A0h hg
  have:=h _ hm
  simp only [Bool.not_eq_true',decide_eq_false_iff_not,Classical.not_not] at this
  refine (A1C fun v hv=> ?_).1 this
  rw [A7b _ _ (by rw [hd]; exact hv),hg v hv]
 ·intro h l hl
  obtain ⟨h1,h2,h3⟩:=A5R.1 hl
  have:=h (fun v=>l.getD v 0) (fun v hv=>h2 _ (by rw [List.getD_eq_getElem?_getD,List.getElem?_eq_getElem (by omega)]; exact List.getElem_mem _)) (by rw [←h1,A44,h3])
  simp only [Bool.not_eq_true',decide_eq_false_iff_not,Classical.not_not]
  refine (A1C fun v hv=> ?_).1 this
  rw [A7b _ _ (by rw [hd]; exact hv)]
theorem B9O (hM:Mult n M) (h0:0<n) {d:List Int} (hd:d.length=n) {r:Nat} (h1: ∀k,k<r→B5t n M d k=none) (h2:(B5t n M d r).isSome=true∨sumR (fun v=>d.getD v 0) n<(r:Int)):rkD n M (fun v=>d.getD v 0)=(r:Int)-1:=by
 have hlo:=A42 (n:=n) (M:=M) fun v=>d.getD v 0
 have hup: ¬(r:Int)≤rkD n M (fun v=>d.getD v 0):=fun h=>by
  have h3:=(A4T hM h0).1 h
  rcases h2 with h2 | h2
  ·rw [(A8L hd h0).2 h3] at h2; cases h2
  ·have:=A6w hM h0 h3; omega
 rcases r with _ | r
 ·omega
 ·have:=(A4T hM h0).2 ((A8L hd h0).1 (h1 r (by omega)))
  omega
end
def B7G:Nat→Nat→List (List Int)
 | 0,_=>[[]]
 | n+1,N=>(List.range (N+1)).flatMap fun k:Nat=>(B7G n N).map fun r=>(k:Int)::r
theorem B2B: ∀n N:Nat,(B7G n N).length=(N+1)^n
 | 0,_=>rfl
 | n+1,N=>by
  have ih:=B2B n N
  have key: ∀m,((List.range m).flatMap fun k:Nat=>(B7G n N).map fun r=>(k:Int)::r).length=m*(N+1)^n:=fun m=>by
   induction m with
   | zero=>simp
   | succ m im=>rw [List.range_succ,List.flatMap_append,List.length_append,im]; simp [ih,Nat.add_mul]
  unfold B7G
  rw [key,Nat.pow_succ,Nat.mul_comm]
theorem B2C: ∀{n N:Nat} {l:List Int},l.length=n→(∀x,x∈l→0≤x∧x≤N)→l∈B7G n N
 | 0,N,l,hl,_=>by rw [List.length_eq_zero_iff.1 hl]; simp [B7G]
 | n+1,N,x::r,hl,hx=>by
  have h1:=hx x (by simp)
  simp only [B7G,List.mem_flatMap,List.mem_range,List.mem_map]
  exact ⟨x.toNat,by omega,r,B2C (by simpa using hl) (fun y hy=>hx y (by simp [hy])),by rw [show (x.toNat:Int)=x by omega]⟩
end Go.Proofs.Ytdhfgihnoimoaaa
