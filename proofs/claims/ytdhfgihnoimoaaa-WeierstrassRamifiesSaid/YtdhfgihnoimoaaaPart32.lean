/- A part of the proof. -/
import Derived.Test.YtdhfgihnoimoaaaPart21
import Derived.Test.YtdhfgihnoimoaaaPart30
import Derived.Test.YtdhfgihnoimoaaaLayerC
set_option linter.all false
set_option maxHeartbeats 4000000
set_option maxRecDepth 100000
namespace Go.Proofs.Ytdhfgihnoimoaaa
open Go.Sp
set_option maxHeartbeats 1000000
def A3g (M:Nat→Nat→Int) (v:Nat):Nat→List Int→List Int
 | 0,d=>d
 | k+1,d=>if k=v then A3g M v k d else ((A3g M v k d).set k ((A3g M v k d).getD k 0-M k v)).set v (((A3g M v k d).set k ((A3g M v k d).getD k 0-M k v)).getD v 0+M k v)
theorem A4M (M:Nat→Nat→Int) (v:Nat) (d:List Int): ∀k,(A3g M v k d).length=d.length
 | 0=>rfl
 | k+1=>by
  unfold A3g
  split
  ·exact A4M M v d k
  ·rw [List.length_set,List.length_set,A4M M v d k]
theorem B2F {M:Nat→Nat→Int} {v:Nat} {d:List Int} (hv:v<d.length) (hd:M v v=0) (w:Nat): ∀k,k≤d.length→
  (A3g M v k d).getD w 0=if w=v then d.getD v 0+sumR (fun u=>M u v) k else if w<k then d.getD w 0-M w v else d.getD w 0
 | 0,_=>by
  simp only [A3g,sumR]
  split
  ·rename_i h; rw [h]; omega
  ·rw [if_neg (by omega)]
 | k +1,hk=>by
  have ih:=fun w=>B2F hv hd w k (by omega)
  have hl:=A4M M v d k
  unfold A3g
  by_cases hkv:k=v
  ·rw [if_pos hkv,ih]
   simp only [sumR]
   subst hkv
   rw [hd]
   by_cases hw:w=k
   ·rw [if_pos hw,if_pos hw]; omega
   ·rw [if_neg hw,if_neg hw]
    by_cases h2:w<k
    ·rw [if_pos h2,if_pos (by omega)]
    ·rw [if_neg h2,if_neg (by omega)]
  ·rw [if_neg hkv,A08 _ _ _ _ (by rw [List.length_set,hl]; exact hv),A08 _ _ _ _ (by rw [hl]; omega),A08 _ _ _ _ (by rw [hl]; omega),if_neg (show ¬v=k by omega)]
   rw [ih v,ih k,ih w,if_pos rfl,if_neg hkv,if_neg (Nat.lt_irrefl k)]
   simp only [sumR]
   by_cases hw:w=v
   ·rw [if_pos hw,if_pos hw]; omega
   ·rw [if_neg hw,if_neg hw,if_neg hw]
    by_cases h2:w=k
    ·rw [if_pos h2,if_pos (by omega),h2]
    ·rw [if_neg h2]
     by_cases h3:w<k
     ·rw [if_pos h3,if_pos (by omega)]
     ·rw [if_neg h3,if_neg (by omega)]
def B3P (d:List Int):Option Nat:=d.findIdx? fun x=>decide (x<0)
theorem B0D {d:List Int} {v:Nat} (h:B3P d=some v):v<d.length∧d.getD v 0<0:=by
 unfold B3P at h
 obtain ⟨h1,h2,_⟩:=List.findIdx?_eq_some_iff_getElem.1 h
 refine ⟨h1,?_⟩
 rw [List.getD_eq_getElem?_getD,List.getElem?_eq_getElem h1]
 simpa using h2
theorem B5v {d:List Int} (h:B3P d=none) (v:Nat):0≤d.getD v 0:=by
 unfold B3P at h
 rw [List.findIdx?_eq_none_iff] at h
 rw [List.getD_eq_getElem?_getD]
 cases hx:d[v]? with
 | none=>exact Int.le_refl _
 | some x=>have:=h x (List.mem_of_getElem? hx); simpa using this
def A96 (M:Nat→Nat→Int) (n:Nat):Nat→List Int→List Bool→Bool
 | 0,_,_=>false
 | k+1,d,b=>match B3P d with
  | none=>true
  | some v=>if b.all id=true then false else A96 M n k (A3g M v n d) (b.set v true)
section
variable {n:Nat} {M:Nat→Nat→Int}
structure GI (n:Nat) (M:Nat→Nat→Int) (d0:Nat→Int) (U C:Int) (s:Nat→Int) (k:Nat) (d:List Int) (b:List Bool):Prop where
 dl:d.length=n
 bl:b.length=n
 s0: ∀v,0≤s v
 led: ∀v,v<n→d.getD v 0=d0 v-lap n M (fun u=> -s u) v
 mark: ∀v,v<n→b.getD v false=decide (0<s v)
 sum:sumR s n=k
 top: ∀v,v<n→d.getD v 0≤U
 least: ∀t:Nat→Int,(∀u,0≤t u)→(∀v,v<n→0≤d0 v-lap n M (fun u=> -t u) v)→ ∀v,v<n→s v≤t v
 few:(k:Int)≤C+1
theorem A97 (s:Nat→Int) (v:Nat):lap n M (fun u=> -s u) v= -sumR (fun u=>M v u*(s v-s u)) n:=A9t s v
theorem GI.begin {d:List Int} {U C:Int} (hd:d.length=n) (hC:0≤C) (hU: ∀v,v<n→d.getD v 0≤U):GI n M (fun v=>d.getD v 0) U C (fun _=>0) 0 d (List.replicate n false):=by
 have h0: ∀v,lap n M (fun _=> -(0:Int)) v=0:=fun v=>by
  rw [A97,A0M fun u _=>by simp]; rfl
 refine ⟨hd,by simp,fun _=>Int.le_refl _,fun v hv=>by rw [h0]; omega,fun v hv=> ?_,by rw [A0M fun _ _=>rfl]; rfl,hU,fun t ht _ v _=>ht v,by omega⟩
 rw [List.getD_eq_getElem?_getD,List.getElem?_replicate,if_pos hv]; rfl
theorem GI.low (hM:Mult n M) {d0:Nat→Int} {U C:Int} {s:Nat→Int} {k:Nat} {d:List Int} {b:List Bool} (h:GI n M d0 U C s k d b) (v:Nat) (hv:v<n):sumR d0 n-n*U+U≤d.getD v 0:=by
 have e1:sumR (fun v=>d.getD v 0) n=sumR d0 n:=by
  rw [A0k h.led,A1i,B1G hM]; omega
 have e2:=A0X (f:=fun v=>U-d.getD v 0) (n:=n) (fun i hi=>by have:=h.top i hi; omega) hv
 rw [A1i,A1H,e1] at e2
 omega
theorem GI.bound (hM:Mult n M) {d0:Nat→Int} {U C N:Int} {s:Nat→Int} {k:Nat} {d:List Int} {b:List Bool} (h:GI n M d0 U C s k d b) (hU:0≤U) (hN:0≤N) (hdN: ∀v,v<n→ -N≤d0 v) (hC:n*(n*(n*(U+N)))≤C) {q:Nat} (hq:q<n) (hs:s q=0):(k:Int)≤C:=by
 have hp:sumR (fun v=>if v=q then 0 else max 0 (d.getD v 0+N)) n≤n*(U+N):=by
  rw [←A1H]
  refine A1s fun v hv=> ?_
  have:=h.top v hv
  split<;>omega
 have hg:=B1J hM (D:=fun v=>d.getD v 0+N) (s:=s) hq (fun v hv _=>by
  have h1:=h.led v hv
  rw [A9t] at h1
  have h2:=hdN v hv
  omega) hp
 rw [←h.sum]
 have:sumR s n≤n*(n*(n*(U+N))):=by
  rw [←A1H]
  exact A1s fun v hv=>by have:=hg v hv; omega
 omega
theorem GI.step (hM:Mult n M) {d0:Nat→Int} {U C N:Int} {s:Nat→Int} {k:Nat} {d:List Int} {b:List Bool} (h:GI n M d0 U C s k d b) (hU:0≤U) (hN:0≤N) (hdN: ∀v,v<n→ -N≤d0 v) (hC:n*(n*(n*(U+N)))≤C)
  (hval: ∀v,v<n→sumR (M v) n≤U) {q:Nat} (hq:q<n) (hs:s q=0) {v:Nat} (hv:v<n) (hneg:d.getD v 0<0):GI n M d0 U C (fun u=>s u+if u=v then 1 else 0) (k+1) (A3g M v n d) (b.set v true):=by
 have hk:=h.bound hM hU hN hdN hC hq hs
 have hget:=fun w=>B2F (M:=M) (v:=v) (d:=d) (by rw [h.dl]; exact hv) (hM.dia v) w n (by rw [h.dl]; exact Nat.le_refl _)
 have hlap: ∀w,w<n→lap n M (fun u=> -(s u+if u=v then 1 else 0)) w=lap n M (fun u=> -s u) w-(if w=v then sumR (M v) n else-M w v):=fun w hw=>by
  rw [A97,A97]
  have e: ∀u,u<n→M w u*(s w+(if w=v then 1 else 0)-(s u+if u=v then 1 else 0))=M w u*(s w-s u)+(if w=v then M w u else 0)-(if u=v then M w v else 0):=fun u _=>by
   by_cases h1:w=v
   ·rw [if_pos h1,if_pos h1]
    by_cases h2:u=v
    ·rw [if_pos h2,if_pos h2,h2,show s w+1-(s v+1)=s w-s v by omega,h1]; omega
    ·rw [if_neg h2,if_neg h2,show s w+1-(s u+0)=(s w-s u)+1 by omega,Int.mul_add]; omega
   ·rw [if_neg h1,if_neg h1]
    by_cases h2:u=v
    ·rw [if_pos h2,if_pos h2,h2,show s w+0-(s v+1)=(s w-s v)+ -1 by omega,Int.mul_add]; omega
    ·rw [if_neg h2,if_neg h2,show s w+0-(s u+0)=(s w-s u) by omega]; omega
  have e2:sumR (fun u=>if w=v then M w u else 0) n=if w=v then sumR (M v) n else 0:=by
   by_cases h1:w=v
   ·rw [if_pos h1,h1]; exact A0k fun u _=>if_pos rfl
   ·simp only [if_neg h1]; exact A0M fun _ _=>rfl
  rw [A0k e,A1i,A1g,A0L _ v hv,e2]
  by_cases h1:w=v
  ·rw [if_pos h1,if_pos h1,h1,hM.dia]; omega
  ·rw [if_neg h1,if_neg h1]; omega
 have hsym:sumR (fun u=>M u v) n=sumR (M v) n:=A0k fun u _=>hM.sym u v
 refine ⟨by rw [A4M]; exact h.dl,by rw [List.length_set]; exact h.bl,fun u=>by have:=h.s0 u; split<;>omega,fun w hw=> ?_,fun w hw=> ?_,?_,fun w hw=> ?_,fun t ht hte w hw=> ?_,by omega⟩
 ·rw [hget,hlap w hw,hsym]
  have h1:=h.led w hw
  by_cases e:w=v
  ·rw [if_pos e,if_pos e,←e]; omega
  ·rw [if_neg e,if_neg e,if_pos hw]; omega
 ·have h1:=h.mark w hw
  rw [List.getD_eq_getElem?_getD,List.getElem?_set,h.bl]
  by_cases e:v=w
  ·rw [if_pos e,if_pos hv]
   have:=h.s0 w
   simp only [Option.getD_some,e,if_true]
   rw [eq_comm,decide_eq_true_eq]; omega
  ·rw [if_neg e,←List.getD_eq_getElem?_getD,h1]
   simp only [if_neg (show ¬w=v by omega),Int.add_zero]
 ·rw [A1g,A0L _ _ hv,h.sum]; omega
 ·rw [hget]
  have h1:=h.top w hw
  have h2:=hM.pos w v
  by_cases e:w=v
  ·rw [if_pos e,hsym]; have:=hval v hv; omega
  ·rw [if_neg e,if_pos hw]; omega
 ·have h1:=h.least t ht hte w hw
  by_cases e:w=v
  ·simp only [if_pos e]
   by_cases hlt:s w<t w
   ·omega
   ·exfalso
    have h2:=h.led w hw
    have h3:=hte w hw
    rw [A97] at h2 h3
    have h4:sumR (fun u=>M w u*(t w-t u)) n≤sumR (fun u=>M w u*(s w-s u)) n:=A1s fun u hu=>by
     have:=h.least t ht hte u hu
     exact Int.mul_le_mul_of_nonneg_left (by omega) (hM.pos w u)
    rw [←e] at hneg
    omega
  ·simp only [if_neg e]; omega
theorem A8K {b:List Bool} (h:b.all id=true) {v:Nat} (hv:v<b.length):b.getD v false=true:=by
 rw [List.getD_eq_getElem?_getD,List.getElem?_eq_getElem hv]
 exact (List.all_eq_true.1 h) _ (List.getElem_mem hv)
theorem A5R {b:List Bool} (h: ¬b.all id=true): ∃v,v<b.length∧b.getD v false=false:=by
 rw [List.all_eq_true] at h
 simp only [id,Classical.not_forall] at h
 obtain ⟨x,hx,hne⟩:=h
 obtain ⟨i,hi,rfl⟩:=List.mem_iff_getElem.1 hx
 exact ⟨i,hi,by rw [List.getD_eq_getElem?_getD,List.getElem?_eq_getElem hi]; simpa using hne⟩
theorem GI.lost (h0:0<n) {d0:Nat→Int} {U C:Int} {s:Nat→Int} {k:Nat} {d:List Int} {b:List Bool} (h:GI n M d0 U C s k d b) (hb:b.all id=true): ¬win n M d0:=by
 rintro ⟨s1,hs1⟩
 obtain ⟨v0,hv0,hmx⟩:=A6s s1 h0
 have:=h.least (fun u=>if u<n then s1 v0-s1 u else 0) (fun u=>by
  split
  ·rename_i hu; have:=hmx u hu; omega
  ·omega) (fun v hv=>by
  have h1:=hs1 v hv
  have:lap n M (fun u=> -(if u<n then s1 v0-s1 u else 0)) v=lap n M s1 v:=by
   unfold lap
   exact A0k fun u hu=>by simp only [if_pos hv,if_pos hu]; congr 1; omega
  rw [this]; exact h1) v0 hv0
 have h2:=h.mark v0 hv0
 rw [A8K hb (by rw [h.bl]; exact hv0)] at h2
 have h3:=of_decide_eq_true h2.symm
 simp only [if_pos hv0] at this
 omega
theorem B2G (hM:Mult n M) (h0:0<n) {d0:Nat→Int} {U C N:Int} (hU:0≤U) (hN:0≤N) (hdN: ∀v,v<n→ -N≤d0 v) (hC:n*(n*(n*(U+N)))≤C) (hval: ∀v,v<n→sumR (M v) n≤U):
  ∀(f:Nat) (s:Nat→Int) (k:Nat) (d:List Int) (b:List Bool),GI n M d0 U C s k d b→C+1<(f:Int)+k→(A96 M n f d b=true↔win n M d0)
 | 0,s,k,d,b,h,hf=>by have:=h.few; omega
 | f +1,s,k,d,b,h,hf=>by
  unfold A96
  cases ho:B3P d with
  | none=>
   simp only [true_iff]
   exact ⟨fun u=> -s u,fun v hv=>by rw [←h.led v hv]; exact B5v ho v⟩
  | some v=>
   obtain ⟨h1,h2⟩:=B0D ho
   rw [h.dl] at h1
   simp only
   by_cases hb:b.all id=true
   ·rw [if_pos hb]
    exact iff_of_false (by simp) (h.lost h0 hb)
   ·rw [if_neg hb]
    obtain ⟨q,q1,q2⟩:=A5R hb
    rw [h.bl] at q1
    have hs:s q=0:=by
     have:=h.mark q q1
     rw [q2] at this
     have h3:=of_decide_eq_false this.symm
     have:=h.s0 q
     omega
    exact B2G hM h0 hU hN hdN hC hval f _ (k+1) _ _ (h.step hM hU hN hdN hC hval q1 hs h1 h2) (by omega)
theorem B2H (hM:Mult n M) (h0:0<n) {d:List Int} (hd:d.length=n) {U N:Int} (hU:0≤U) (hN:0≤N) (hdU: ∀v,v<n→d.getD v 0≤U) (hdN: ∀v,v<n→ -N≤d.getD v 0) (hval: ∀v,v<n→sumR (M v) n≤U) {f:Nat} (hf:n*(n*(n*(U+N)))+1<(f:Int)):
  A96 M n f d (List.replicate n false)=true↔win n M (fun v=>d.getD v 0):=
 B2G hM h0 hU hN hdN (Int.le_refl _) hval f _ 0 _ _ (GI.begin hd (Int.mul_nonneg (by omega) (Int.mul_nonneg (by omega) (Int.mul_nonneg (by omega) (by omega)))) hdU) (by omega)
end
set_option maxHeartbeats 1000000
def A6X:Nat→Nat→List (List Int)
 | 0,_=>[]
 | 1,d=>[[(d:Int)]]
 | n+2,d=>(List.range (d+1)).flatMap fun k=>(A6X (n+1) (d-k)).map fun r=>(k:Int)::r
def B5w (l:List Int):Int:=l.foldr (·+ ·) 0
theorem A8f (x:Int) (l:List Int):B5w (x::l)=x+B5w l:=rfl
theorem A3V: ∀{n d:Nat} {l:List Int},l∈A6X (n+1) d↔l.length=n+1∧(∀x,x∈l→0≤x)∧B5w l=d
 | 0,d,l=>by
  simp only [A6X,List.mem_singleton]
  constructor
  ·rintro rfl; exact ⟨rfl,fun x hx=>by rw [List.mem_singleton] at hx; omega,by simp [B5w]⟩
  ·rintro ⟨h1,h2,h3⟩
   match l,h1 with
   | [x],_=>simp [B5w] at h3; rw [h3]
 | n +1,d,l=>by
  simp only [A6X,List.mem_flatMap,List.mem_range,List.mem_map]
  constructor
  ·rintro ⟨k,hk,r,hr,rfl⟩
   obtain ⟨h1,h2,h3⟩:=A3V.1 hr
   refine ⟨by simp [h1],fun x hx=> ?_,by rw [A8f,h3]; omega⟩
   rcases List.mem_cons.1 hx with rfl | hx
   ·omega
   ·exact h2 x hx
  ·rintro ⟨h1,h2,h3⟩
   match l,h1 with
   | x::r,h1=>
    rw [A8f] at h3
    have hx:=h2 x (by simp)
    have hr: ∀y,y∈r→0≤y:=fun y hy=>h2 y (by simp [hy])
    have hs:0≤B5w r:=by
     clear h1 h2 h3
     induction r with
     | nil=>exact Int.le_refl _
     | cons y r ih=>rw [A8f]; have:=hr y (by simp); have:=ih fun z hz=>hr z (by simp [hz]); omega
    refine ⟨x.toNat,by omega,r,A3V.2 ⟨by simpa using h1,hr,by omega⟩,?_⟩
    rw [show (x.toNat:Int)=x by omega]
theorem B0E (x:Int) (r:List Int): ∀k,sumR (fun v=>(x::r).getD v 0) (k+1)=x+sumR (fun v=>r.getD v 0) k
 | 0=>by simp [sumR]
 | k+1=>by
  have:=B0E x r k
  simp only [sumR] at this ⊢
  simp only [List.getD_cons_succ] at this ⊢
  omega
theorem A46: ∀l:List Int,sumR (fun v=>l.getD v 0) l.length=B5w l
 | []=>rfl
 | x::r=>by rw [List.length_cons,B0E,A46 r]; rfl
def A7h (a b:List Int):List Int:=(List.range a.length).map fun i=>a.getD i 0-b.getD i 0
theorem A5S (a b:List Int):(A7h a b).length=a.length:=by simp [A7h]
theorem A7i (a b:List Int) {i:Nat} (hi:i<a.length):(A7h a b).getD i 0=a.getD i 0-b.getD i 0:=by
 unfold A7h
 rw [List.getD_eq_getElem?_getD,List.getElem?_map,List.getElem?_range hi]; rfl
section
variable {n:Nat} {M:Nat→Nat→Int}
open Classical in
noncomputable def A8g (n:Nat) (M:Nat→Nat→Int) (d:List Int) (k:Nat):Option (List Int):=(A6X n k).find? fun l=> !decide (win n M fun v=>(A7h d l).getD v 0)
theorem A8L {d:List Int} (hd:d.length=n) (h0:0<n) {k:Nat}:A8g n M d k=none↔A3m n M (fun v=>d.getD v 0) k:=by
 obtain ⟨m,rfl⟩: ∃m,n=m+1:=⟨n-1,by omega⟩
 unfold A8g
 rw [List.find?_eq_none]
 constructor
 ·intro h E hE hs
  have hl:((List.range (m+1)).map E).length=m+1:=by simp
  have hg: ∀v,v<m+1→((List.range (m+1)).map E).getD v 0=E v:=fun v hv=>by
   rw [List.getD_eq_getElem?_getD,List.getElem?_map,List.getElem?_range hv]; rfl
  have hm:(List.range (m+1)).map E∈A6X (m+1) k:=by
   refine A3V.2 ⟨hl,fun x hx=> ?_,?_⟩
   ·obtain ⟨v,hv,rfl⟩:=List.mem_map.1 hx
    exact hE v (List.mem_range.1 hv)
   ·rw [←A46,hl,←hs]
    exact A0k hg
  have:=h _ hm
  simp only [Bool.not_eq_true',decide_eq_false_iff_not,Classical.not_not] at this
  refine (A1E fun v hv=> ?_).1 this
  rw [A7i _ _ (by rw [hd]; exact hv),hg v hv]
 ·intro h l hl
  obtain ⟨h1,h2,h3⟩:=A3V.1 hl
  have:=h (fun v=>l.getD v 0) (fun v hv=>h2 _ (by rw [List.getD_eq_getElem?_getD,List.getElem?_eq_getElem (by omega)]; exact List.getElem_mem _)) (by rw [←h1,A46,h3])
  simp only [Bool.not_eq_true',decide_eq_false_iff_not,Classical.not_not]
  refine (A1E fun v hv=> ?_).1 this
  rw [A7i _ _ (by rw [hd]; exact hv)]
theorem B9l (hM:Mult n M) (h0:0<n) {d:List Int} (hd:d.length=n) {r:Nat} (h1: ∀k,k<r→A8g n M d k=none) (h2:(A8g n M d r).isSome=true∨sumR (fun v=>d.getD v 0) n<(r:Int)):rkD n M (fun v=>d.getD v 0)=(r:Int)-1:=by
 have hlo:=A44 (n:=n) (M:=M) fun v=>d.getD v 0
 have hup: ¬(r:Int)≤rkD n M (fun v=>d.getD v 0):=fun h=>by
  have h3:=(A5N hM h0).1 h
  rcases h2 with h2 | h2
  ·rw [(A8L hd h0).2 h3] at h2; cases h2
  ·have:=A6y hM h0 h3; omega
 rcases r with _ | r
 ·omega
 ·have:=(A5N hM h0).2 ((A8L hd h0).1 (h1 r (by omega)))
  omega
end
def B7F:Nat→Nat→List (List Int)
 | 0,_=>[[]]
 | n+1,N=>(List.range (N+1)).flatMap fun k:Nat=>(B7F n N).map fun r=>(k:Int)::r
theorem B2I: ∀n N:Nat,(B7F n N).length=(N+1)^n
 | 0,_=>rfl
 | n+1,N=>by
  have ih:=B2I n N
  have key: ∀m,((List.range m).flatMap fun k:Nat=>(B7F n N).map fun r=>(k:Int)::r).length=m*(N+1)^n:=fun m=>by
   induction m with
   | zero=>simp
   | succ m im=>rw [List.range_succ,List.flatMap_append,List.length_append,im]; simp [ih,Nat.add_mul]
  unfold B7F
  rw [key,Nat.pow_succ,Nat.mul_comm]
theorem B2J: ∀{n N:Nat} {l:List Int},l.length=n→(∀x,x∈l→0≤x∧x≤N)→l∈B7F n N
 | 0,N,l,hl,_=>by rw [List.length_eq_zero_iff.1 hl]; simp [B7F]
 | n+1,N,x::r,hl,hx=>by
  have h1:=hx x (by simp)
  simp only [B7F,List.mem_flatMap,List.mem_range,List.mem_map]
  exact ⟨x.toNat,by omega,r,B2J (by simpa using hl) (fun y hy=>hx y (by simp [hy])),by rw [show (x.toNat:Int)=x by omega]⟩
end Go.Proofs.Ytdhfgihnoimoaaa
