/- A part of the proof. -/
import Derived.Test.YtdhfgihnoimoaaaPart44
import Derived.Test.YtdhfgihnoimoaaaLayerC
import Derived.Test.YtdhfgihnoimoaaaPart07
set_option linter.all false
set_option maxHeartbeats 4000000
set_option maxRecDepth 100000
namespace Go.Proofs.Ytdhfgihnoimoaaa
open Go.Sp
theorem B7v (g:G):ACall Try.prog 27 [tG g] (A0G (A2q g 5 7)):=by
 have h:=B6T g 5 7
 generalize A2q g 5 7=b at*
 obtain ⟨n,es⟩:=g
 refine ACall.of_body Try.func27 rfl (by kernel_rfl) ?_
 simp only [entry,Try.ntmps27,tG]
 refine zU ?_
 refine zR trivial (zc h trivial) trivial ?_
 simp [A0J,A0I,Blk.cells,ty,Try.results27,A05,A08,toT,A0e,A0c,A0d,A0a,A0G]
theorem B7w (g:G):ACall Try.prog 9 [tG g] (A0G (A2q g 5 7)):=by
 have h:=B7v g
 generalize A2q g 5 7=b at*
 obtain ⟨n,es⟩:=g
 refine ACall.of_body Try.func9 rfl (by kernel_rfl) ?_
 simp only [entry,Try.ntmps9,tG]
 refine zU ?_
 refine zR trivial (zc h trivial) trivial ?_
 simp [A0J,A0I,Blk.cells,ty,Try.results9,A05,A08,toT,A0e,A0c,A0d,A0a,A0G]
theorem A47 {g:G} {a b:Int} (h:A2q g a b=true):g.es.length≤40:=by
 unfold A2q at h
 simp only [Bool.and_eq_true,decide_eq_true_eq] at h
 exact h.1
theorem A7h {n:Nat} {es:List E} (h:A2q ⟨(n:Int),es⟩ 5 7=true) (hj:A02 ⟨(n:Int),es⟩=0):Sm5 n es:=by
 obtain ⟨hc,hcn⟩:=A5s hj
 have hl:=A47 h
 unfold A2q at h
 simp only [Bool.and_eq_true,Bool.or_eq_true,decide_eq_true_eq] at h
 rcases h.2 with h2 | h2
 ·exact absurd hc h2
 ·exact ⟨B2H hl hc hcn,by omega,by omega⟩
theorem B8E {g:G} (hc:checkG g=0):g=⟨(g.n.toNat:Int),g.es⟩:=by
 have:=(A0w.1 hc).1
 obtain ⟨n,es⟩:=g
 simp only at this ⊢
 rw [show ((n.toNat:Nat):Int)=n by omega]
def A3A (g:G):Bool:=A2q g 5 7&&(decide (checkG g≠0)||decide (sizeE g.es-g.n+1≤3))
theorem B99 (g:G):ACall Try.prog 14 [tG g] (A0G (A3A g)):=by
 have hF:=B7w g
 cases hs:A2q g 5 7 with
 | false=>
  have e:A3A g=false:=by unfold A3A; rw [hs]; rfl
  rw [e]
  rw [hs] at hF
  obtain ⟨n,es⟩:=g
  refine ACall.of_body Try.func14 rfl (by kernel_rfl) ?_
  simp only [entry,Try.ntmps14,tG]
  refine zU ?_
  refine zR trivial (zc hF trivial) trivial ?_
  simp [A0J,A0I,Blk.cells,ty,Try.results14,A05,A08,toT,A0e,A0c,A0d,A0a,A0G]
 | true=>
  have hl:=A47 hs
  have hC:=A4v g (by omega)
  rw [hs] at hF
  by_cases hc:checkG g=0
  ·have hn:=B8E hc
   have e:A3A g=decide (sizeE g.es-g.n+1≤3):=by unfold A3A; rw [hs,hc]; rfl
   rw [e]
   rw [hc] at hC
   have hG:ACall Try.prog 22 [tG g] (A0j (sizeE g.es-g.n+1)):=by
    have:=A9Q g.n.toNat g.es hl (by rw [←hn]; exact hc)
    rw [←hn] at this
    have hnn:((g.n.toNat:Nat):Int)=g.n:=by have:=(A0w.1 hc).1; omega
    rw [hnn] at this
    exact this
   clear hn e hs hc
   generalize sizeE g.es-g.n+1=gg at*
   obtain ⟨n,es⟩:=g
   refine ACall.of_body Try.func14 rfl (by kernel_rfl) ?_
   simp only [entry,Try.ntmps14,tG]
   refine zU ?_
   refine zR trivial (zc hF (zc hC (zc hG trivial))) trivial ?_
   simp [A0J,A0I,Blk.cells,ty,Try.results14,A05,A08,toT,A0e,A0c,A0d,A0a,A0G]
  ·have e:A3A g=true:=by unfold A3A; rw [hs,decide_eq_true (show checkG g≠0 from hc)]; rfl
   rw [e]
   clear hs e
   generalize checkG g=er at*
   obtain ⟨n,es⟩:=g
   refine ACall.of_body Try.func14 rfl (by kernel_rfl) ?_
   simp only [entry,Try.ntmps14,tG]
   refine zU ?_
   refine zR (zc @hc trivial) (zc hF (zc hC trivial)) trivial ?_
   simp [A0J,A0I,Blk.cells,ty,Try.results14,A05,A08,toT,A0e,A0c,A0d,A0a,A0G]
theorem A8j {g:G} (h:A3A g=true):A2q g 5 7=true:=by
 unfold A3A at h
 rw [Bool.and_eq_true] at h; exact h.1
theorem B5U {g:G} (h:A3A g=true) (hc:checkG g=0):sizeE g.es-g.n+1≤3:=by
 unfold A3A at h
 simp only [Bool.and_eq_true,Bool.or_eq_true,decide_eq_true_eq] at h
 rcases h.2 with h2 | h2
 ·exact absurd hc h2
 ·exact h2
def A4Q (g:G):Bool:=A3A g&&decide (A02 g=0)
theorem A8V (g:G):ACall Try.prog 21 [tG g] (A0G (A4Q g)):=by
 have hL:=B99 g
 unfold A4Q
 cases hs:A3A g with
 | false=>
  rw [Bool.false_and]
  rw [hs] at hL
  obtain ⟨n,es⟩:=g
  refine ACall.of_body Try.func21 rfl (by kernel_rfl) ?_
  simp only [entry,Try.ntmps21,tG]
  refine zU ?_
  refine zR trivial (zc hL trivial) trivial ?_
  simp [A0J,A0I,Blk.cells,ty,Try.results21,A05,A08,toT,A0e,A0c,A0d,A0a,A0G]
 | true=>
  have hl:=A47 (A8j hs)
  have hJ:=B0F g hl
  rw [Bool.true_and]
  rw [hs] at hL
  clear hs hl
  generalize A02 g=j at*
  obtain ⟨n,es⟩:=g
  refine ACall.of_body Try.func21 rfl (by kernel_rfl) ?_
  simp only [entry,Try.ntmps21,tG]
  refine zU ?_
  refine zR trivial (zc hL (zc hJ trivial)) trivial ?_
  simp [A0J,A0I,Blk.cells,ty,Try.results21,A05,A08,toT,A0e,A0c,A0d,A0a,A0G]
section
variable {n:Nat} {es:List E}
theorem B2N (g:Gok n es) {v:Nat} (hv:v<n) (k:Nat):win n (mulE es) fun u=>(A4N n v (k:Int)).getD u 0:=⟨fun _=>0,fun u _=>by
 have:lap n (mulE es) (fun _=>0) u=0:=by unfold lap; exact A0C fun _ _=>by simp
 rw [this]
 show 0≤(A4N n v (k:Int)).getD u 0-0
 rw [A3m n v k hv]; split<;>omega⟩
theorem A8W (g:Gok n es) {v:Nat} (hv:v<n) (k:Nat):0≤rkT n es v k:=(A8H g.hM (by have:=g.h1; omega)).2 (B2N g hv k)
theorem A9V (g:Gok n es) {v:Nat} (hv:v<n):rkT n es v 0=0:=by
 have h1:=A8W g hv 0
 have h2:=(B5N g hv 0).2
 omega
theorem B7O (g:Gok n es) {v:Nat} (hv:v<n) (k:Nat):rkT n es v (k+1)≤rkT n es v k+1:=by
 have h1:=g.h1
 have h:=(B5d g.hM (by omega) (B2N g hv (k+1))).1 v hv
 have e:rkD n (mulE es) (A41 (fun u=>(A4N n v ((k+1:Nat):Int)).getD u 0) v)=rkT n es v k:=A6Z g.hM (by omega) fun u hu=>by
  unfold A41
  simp only
  rw [A3m n v _ hv,A3m n v _ hv]
  split<;>omega
 rw [e] at h
 exact h
theorem B2O (g:Gok n es) {v:Nat} (hv:v<n) (k:Nat):rkT n es v k≤rkT n es v (k+1):=by
 have h1:=g.h1
 obtain ⟨r,hr⟩:=Int.eq_ofNat_of_zero_le (A8W g hv k)
 have h2:A2D n (mulE es) (fun u=>(A4N n v (k:Int)).getD u 0) r:=(A4T g.hM (by omega)).1 (by show (r:Int)≤rkT n es v k; omega)
 have h3:A2D n (mulE es) (fun u=>(A4N n v ((k+1:Nat):Int)).getD u 0) r:=fun E hE hs=>(h2 E hE hs).mono fun u hu=>by
  simp only
  rw [A3m n v _ hv,A3m n v _ hv]
  split<;>omega
 have:=(A4T g.hM (by omega)).2 h3
 show rkT n es v k≤rkD n (mulE es) _
 omega
theorem B5V (g:Gok n es):2*(sizeE es-n+1)=twoE n (mulE es)-2*n+2:=by rw [A5Q g.hE]; omega
theorem B1b (g:Gok n es) {v:Nat} (hv:v<n) {k:Nat} (hk:2*(sizeE es-n+1)-2<(k:Int)):rkT n es v k=k-(sizeE es-n+1):=by
 have h1:=g.h1
 have e:sumR (fun u=>(A4N n v (k:Int)).getD u 0) n=k:=A9P hv
 have:=B25 g.hM (by omega) (D:=fun u=>(A4N n v (k:Int)).getD u 0) (B5V g) (by rw [e]; exact hk)
 rw [e] at this
 exact this
end
structure GapF (G:Int) (r:Nat→Int) (l:List Int):Prop where
 len:(l.length:Int)=G
 low:halfT G≤sumL l
 pos:0<sumL l-halfT G↔1≤r G.toNat
 one:1≤G→r 1=0→l[0]? =some 1
 srt: ∀(i:Nat) x,l[i]? =some x→1≤x∧x≤2*G-1∧ ∀y,1≤i→l[i-1]? =some y→y<x
def B1c:Nat→List (List Int)
 | 0=>[[0]]
 | k+1=>(B1c k).flatMap fun rs=>[rs++[rs.getD k 0],rs++[rs.getD k 0+1]]
theorem A8X {r:Nat→Int} (h0:r 0=0) (hm: ∀k,r k≤r (k+1)) (hu: ∀k,r (k+1)≤r k+1): ∀k,(List.range (k+1)).map r∈B1c k
 | 0=>by simp [B1c,h0]
 | k+1=>by
  have ih:=A8X h0 hm hu k
  simp only [B1c,List.mem_flatMap]
  refine ⟨_,ih,?_⟩
  have hg:((List.range (k+1)).map r).getD k 0=r k:=by
   rw [List.getD_eq_getElem?_getD,List.getElem?_map,List.getElem?_range (by omega)]; rfl
  have e3:(List.range (k+1+1)).map r=(List.range (k+1)).map r++[r (k+1)]:=by rw [List.range_succ,List.map_append]; rfl
  rw [hg,e3]
  have h1:=hm k
  have h2:=hu k
  by_cases e:r (k+1)=r k
  ·exact List.mem_cons.2 (.inl (by rw [e]))
  ·have e2:r (k+1)=r k+1:=by omega
   exact List.mem_cons.2 (.inr (List.mem_cons.2 (.inl (by rw [e2]))))
def B5W (G:Nat) (rs:List Int):Bool:=
 let l:=A3B rs (A2B G)
 decide (l.length=G)&&decide (halfT G≤sumL l)&&(decide (0<sumL l-halfT G)==decide (1≤rs.getD G 0))&&(decide (G=0)||decide (rs.getD 1 0≠0)||decide (l.getD 0 0=1))&&
  (List.range l.length).all fun i=>decide (1≤l.getD i 0)&&decide (l.getD i 0≤2*(G:Int)-1)&&(decide (i=0)||decide (l.getD (i-1) 0<l.getD i 0))
theorem B3X:(List.range 4).all (fun G=>(B1c (A2B G-1)).all fun rs=>decide (1≤G∧rs.getD (2*G-1) 0≠(G:Int)-1)||B5W G rs)=true:=by decide+kernel
theorem B5X {G:Nat} {rs:List Int} (h:B5W G rs=true) (hl:rs.length=A2B G):((A3B rs (A2B G)).length:Int)=G∧halfT G≤sumL (A3B rs (A2B G))∧(0<sumL (A3B rs (A2B G))-halfT G↔1≤rs.getD G 0)∧(1≤G→rs.getD 1 0=0→(A3B rs (A2B G)).getD 0 0=1)∧
  ∀i,i<(A3B rs (A2B G)).length→1≤(A3B rs (A2B G)).getD i 0∧(A3B rs (A2B G)).getD i 0≤2*(G:Int)-1∧(1≤i→(A3B rs (A2B G)).getD (i-1) 0<(A3B rs (A2B G)).getD i 0):=by
 unfold B5W at h
 simp only [Bool.and_eq_true,decide_eq_true_eq,Bool.or_eq_true,beq_iff_eq,List.all_eq_true,List.mem_range] at h
 obtain ⟨⟨⟨⟨h1,h2⟩,h3⟩,h4⟩,h5⟩:=h
 refine ⟨by omega,h2,decide_eq_decide.1 h3,fun q1 q2=> ?_,fun i hi=> ?_⟩
 ·rcases h4 with (h4 | h4) | h4
  ·omega
  ·exact absurd q2 h4
  ·exact h4
 ·obtain ⟨⟨q1,q2⟩,q3⟩:=h5 i hi
  refine ⟨q1,q2,fun q=> ?_⟩
  rcases q3 with q3 | q3
  ·omega
  ·exact q3
theorem B8F {G:Int} (hG:0≤G∧G≤3) {r:Nat→Int} (h0:r 0=0) (hm: ∀k,r k≤r (k+1)) (hu: ∀k,r (k+1)≤r k+1) (hl: ∀k:Nat,2*G-2<(k:Int)→r k=k-G):
  GapF G r (A3B ((List.range (A2B G)).map r) (A2B G)):=by
 obtain ⟨g,rfl⟩:=Int.eq_ofNat_of_zero_le hG.1
 have hf:A2B (g:Int)=(A2B (g:Int)-1)+1:=by unfold A2B; omega
 have hmem:=A8X h0 hm hu (A2B (g:Int)-1)
 rw [←hf] at hmem
 have hfar:g=0∨A2B (g:Int)=2*g:=by unfold A2B; omega
 have hget: ∀k,k<A2B (g:Int)→((List.range (A2B (g:Int))).map r).getD k 0=r k:=fun k hk=>by
  rw [List.getD_eq_getElem?_getD,List.getElem?_map,List.getElem?_range hk]; rfl
 have hall:=B3X
 simp only [List.all_eq_true,List.mem_range] at hall
 have hc:=hall g (by omega) _ hmem
 rw [Bool.or_eq_true,decide_eq_true_eq] at hc
 have hlen:((List.range (A2B (g:Int))).map r).length=A2B (g:Int):=by simp
 rcases hc with ⟨q1,q2⟩ | hc
 ·exfalso
  rcases hfar with e | e
  ·omega
  ·rw [hget _ (by omega),hl _ (by omega)] at q2
   omega
 ·obtain ⟨a1,a2,a3,a4,a5⟩:=B5X hc hlen
  have hgG:1≤g→((List.range (A2B (g:Int))).map r).getD g 0=r g:=fun h=>hget g (by rcases hfar with e | e<;>omega)
  refine ⟨a1,a2,?_,fun q1 q2=> ?_,fun i x hx=> ?_⟩
  ·rw [a3]
   by_cases e:1≤g
   ·rw [hgG e]; rfl
   ·have e0:g=0:=by omega
    subst e0
    have:((List.range (A2B ((0:Nat):Int))).map r).getD 0 0=r 0:=hget 0 (by unfold A2B; omega)
    rw [this]; rfl
  ·have hg1:1≤g:=by omega
   have:=a4 hg1 (by rw [hget 1 (by rcases hfar with e | e<;>omega)]; exact q2)
   have hpos:0<(A3B ((List.range (A2B (g:Int))).map r) (A2B (g:Int))).length:=by omega
   rw [A1U hpos] at this
   rw [List.getElem?_eq_getElem hpos,this]
  ·have hi:=(List.getElem?_eq_some_iff.1 hx).1
   obtain ⟨b1,b2,b3⟩:=a5 i hi
   have ex:(A3B ((List.range (A2B (g:Int))).map r) (A2B (g:Int))).getD i 0=x:=by
    rw [List.getD_eq_getElem?_getD,hx]; rfl
   rw [ex] at b1 b2 b3
   refine ⟨b1,b2,fun y h1 hy=> ?_⟩
   have ey:(A3B ((List.range (A2B (g:Int))).map r) (A2B (g:Int))).getD (i-1) 0=y:=by
    rw [List.getD_eq_getElem?_getD,hy]; rfl
   rw [←ey]; exact b3 h1
theorem B7x {n:Nat} {es:List E} (g:Gok n es) {v:Nat} (hv:v<n) (hG:sizeE es-n+1≤3):GapF (sizeE es-n+1) (rkT n es v) (A1V n es v):=
 B8F ⟨A5r g,hG⟩ (A9V g hv) (B2O g hv) (B7O g hv) (fun k hk=>B1b g hv hk)
theorem B2P {n:Nat}: ∀{es:List E},EsOk n es→ ∀(v:Nat),v<n→A9Z (v:Int) es=sumR (mulE es v) n
 | [],_,v,_=>by
  show (0:Int)=sumR (fun _=>0) n
  rw [A0C fun _ _=>rfl]
 | e ::es,h,v,hv=>by
  have ih:=B2P h.tail v hv
  have hr:=h.rng e (by simp)
  simp only [A9Z]
  rw [ih]
  have e1:sumR (mulE (e::es) v) n=sumR (fun u=>if e.a≠e.b∧((e.a=v∧e.b=u)∨(e.b=v∧e.a=u)) then e.m else 0) n+sumR (mulE es v) n:=by
   rw [←A1d]; rfl
  rw [e1]
  congr 1
  obtain ⟨a,ha⟩:=Int.eq_ofNat_of_zero_le hr.1.1
  obtain ⟨b,hb⟩:=Int.eq_ofNat_of_zero_le hr.2.1.1
  by_cases hab:e.a=e.b
  ·rw [if_neg (fun q=>q.1 hab),A0C fun u _=>if_neg fun q=>q.1 hab]
  ·by_cases h1:e.a=v
   ·rw [if_pos ⟨hab,.inl h1⟩,A0h (g:=fun u=>if u=b then e.m else 0) fun u _=> ?_,A0D _ _ (by omega)]
    by_cases q:u=b
    ·rw [if_pos q,if_pos ⟨hab,.inl ⟨h1,by omega⟩⟩]
    ·rw [if_neg q,if_neg]; omega
   ·by_cases h2:e.b=v
    ·rw [if_pos ⟨hab,.inr h2⟩,A0h (g:=fun u=>if u=a then e.m else 0) fun u _=> ?_,A0D _ _ (by omega)]
     by_cases q:u=a
     ·rw [if_pos q,if_pos ⟨hab,.inr ⟨h2,by omega⟩⟩]
     ·rw [if_neg q,if_neg]; omega
    ·rw [if_neg,A0C fun u _=>if_neg ?_]
     ·omega
     ·omega
def B1d (n:Nat) (es:List E) (i:Nat):List Int:=(List.range n).map fun v=>if v<i then sumR (mulE es v) n-2 else 0
def A8k (n:Nat) (es:List E):List Int:=B1d n es n
theorem A7i (n:Nat) (es:List E) (i:Nat):(B1d n es i).length=n:=by simp [B1d]
theorem A9W (n:Nat) (es:List E) (i v:Nat):(B1d n es i)[v]? =if v<n then some (if v<i then sumR (mulE es v) n-2 else 0) else none:=by
 unfold B1d
 rw [List.getElem?_map]
 by_cases h:v<n
 ·rw [if_pos h,List.getElem?_range h]; rfl
 ·rw [if_neg h,List.getElem?_eq_none (by simpa using h)]; rfl
theorem B5Y (n:Nat) (es:List E):B1d n es 0=List.replicate n 0:=by
 apply List.ext_getElem
 ·simp [B1d]
 ·intro i h1 h2; simp [B1d]
theorem B7y (n:Nat) (es:List E) {i:Nat} (hi:i<n):(B1d n es i).set i (sumR (mulE es i) n-2)=B1d n es (i+1):=by
 apply List.ext_getElem?
 intro j
 rw [List.getElem?_set,A7i,A9W,A9W]
 by_cases e:i=j
 ·subst e
  rw [if_pos rfl,if_pos hi,if_pos hi,if_pos (by omega)]
 ·rw [if_neg e]
  by_cases h:j<n
  ·rw [if_pos h,if_pos h]
   by_cases h2:j<i
   ·rw [if_pos h2,if_pos (by omega)]
   ·rw [if_neg h2,if_neg (by omega)]
  ·rw [if_neg h,if_neg h]
theorem A7j {n:Nat} {es:List E} {v:Nat} (hv:v<n):(A8k n es).getD v 0=B09 n (mulE es) v:=by
 unfold A8k
 rw [List.getD_eq_getElem?_getD,A9W,if_pos hv,if_pos hv]; rfl
theorem B3Y (g:G) (hl:g.es.length≤40):ACall Try.prog 51 [tG g] (A0j (A02 g)):=by
 have hC:=A20 g (by omega)
 by_cases hc:checkG g=0
 ·rw [hc] at hC
  cases hb:connB g with
  | false=>
   have e:A02 g=13:=by unfold A02; rw [if_neg (fun q=>q hc),if_neg (by rw [hb]; simp)]
   rw [e]
   rw [hb] at hC
   obtain ⟨n,es⟩:=g
   have hC2:ACall Try.prog 60 [tG ⟨n,es⟩] (.tup [A0G false,A0j 0]):=hC
   refine ACall.of_body Try.func51 rfl (by kernel_rfl) ?_
   simp only [entry,Try.ntmps51,tG]
   refine zU ?_
   refine zR trivial (zc hC2 trivial) trivial ?_
   simp [A0J,A0I,Blk.cells,ty,Try.results51,A05,A08,toT,A0e,A0c,A0d,A0a,A0j]
  | true=>
   have e:A02 g=0:=by unfold A02; rw [if_neg (fun q=>q hc),if_pos hb]
   rw [e]
   rw [hb] at hC
   obtain ⟨n,es⟩:=g
   have hC2:ACall Try.prog 60 [tG ⟨n,es⟩] (.tup [A0G true,A0j 0]):=hC
   refine ACall.of_body Try.func51 rfl (by kernel_rfl) ?_
   simp only [entry,Try.ntmps51,tG]
   refine zU ?_
   refine zR trivial (zc hC2 trivial) trivial ?_
   simp [A0J,A0I,Blk.cells,ty,Try.results51,A05,A08,toT,A0e,A0c,A0d,A0a,A0j]
 ·have e:A02 g=checkG g:=if_pos hc
  have hC2:ACall Try.prog 60 [tG g] (.tup [A0G false,A0j (checkG g)]):=by
   rw [decide_eq_false hc] at hC; exact hC
  rw [e]
  clear hC
  generalize checkG g=er at*
  obtain ⟨n,es⟩:=g
  refine ACall.of_body Try.func51 rfl (by kernel_rfl) ?_
  simp only [entry,Try.ntmps51,tG]
  refine zU ?_
  refine zR (zc @hc trivial) (zc hC2 trivial) trivial ?_
  simp [A0J,A0I,Blk.cells,ty,Try.results51,A05,A08,toT,A0e,A0c,A0d,A0a,A0j]
def A8Y (n:Nat) (es:List E):List (List TVal):=(List.range n).map fun v:Nat=>[A0j v,A0j (sumR (mulE es v) n)]
theorem A61 (n:Nat) (es:List E):(A8Y n es).length=n:=by simp [A8Y]
theorem A8Z {n:Nat} {es:List E} {k:Nat} (h:k<n):(A8Y n es)[k]? =some [A0j k,A0j (sumR (mulE es k) n)]:=by
 unfold A8Y; rw [List.getElem?_map,List.getElem?_range h]; rfl
theorem A9a {n:Nat} {es:List E} {k:Nat} {ts:List TVal} (h:(A8Y n es)[k]? =some ts):k<n∧ts=[A0j k,A0j (sumR (mulE es k) n)]:=by
 have hk:k<n:=by have:=(List.getElem?_eq_some_iff.1 h).1; rw [A61] at this; exact this
 rw [A8Z hk] at h
 cases h
 exact ⟨hk,rfl⟩
theorem B7z {n:Nat} {es:List E} (g:Gok n es):AIter Try.prog 95 [.rptr [.int .i64 (n:Int),.slice (A0b es)]] (A8Y n es):=by
 have hl:=g.hl
 have hV: ∀v:Nat,v<n→ACall Try.prog 96 [tG ⟨(n:Int),es⟩,A0j v] (.tup [A0j (sumR (mulE es v) n),A0j 0]):=fun v hv=>by
  have h:=B3t ⟨(n:Int),es⟩ v (by show es.length<2^30; omega)
  have ha:atE ⟨(n:Int),es⟩ [(v:Int)]=0:=by
   unfold atE
   rw [if_neg (by have:=g.hc; omega)]
   rw [if_pos]
   intro w hw
   rw [List.mem_singleton] at hw
   subst hw
   show 0≤(v:Int)∧(v:Int)<(n:Int)
   omega
  rw [ha,if_neg (by simp)] at h
  have e:A9Z (v:Int) (⟨(n:Int),es⟩:G).es=sumR (mulE es v) n:=B2P g.hE v hv
  rw [e] at h
  exact h
 refine AIter.of_body Try.func95 rfl (by kernel_rfl) rfl (fun l J Jx hJ hJx hY=> ?_)
 simp only [entry,Try.ntmps95,ofT,A2G,A0s,List.map_cons,List.map_nil,List.length_cons,List.length_nil,Nat.reduceAdd,Nat.reduceSub,List.replicate_succ,List.replicate_zero,List.cons_append,List.nil_append]
 rw [A61]
 refine zR trivial trivial trivial ?_
 refine AWp.loopS (α:=Nat) 23 (fun k=>[(0,.c (.yld l)),(1,.c (.rptr [.int .i64 (n:Int),.slice (A0b es)])),(7,.c (.int .i64 (n:Int))),(8,.c (.int .i64 (k:Int)))]) (fun k=>[.ghost (J k)]) (fun k=>k≤n) (fun k=>n-k) (0) (hk:=A0r.headL 1 23 [0,1,7,8] (zV2 @A0o @A0m)) (h0:=?_) (round:=fun k hI=>?_)
 ·exact Nat.zero_le _
 ·have hk:k≤n:=hI
  clear hI
  have h12:=g.h12
  by_cases hkl:k<n
  ·have hkI:(k:Int)<(n:Int):=by omega
   have hgk:=A8Z (n:=n) (es:=es) hkl
   have hVk:=hV k hkl
   clear hV
   generalize sumR (mulE es k) n=r at*
   repeat' (first|((with_reducible refine AWp.seq (AWp.of_reg (id:=4) (AReg.pre 3 (fun K hK=>?_))));simp only [List.take_succ_cons,List.take_zero])|((with_reducible refine AWp.of_reg (id:=4) (AReg.pre 3 (fun K hK=>?_)));simp only [List.take_succ_cons,List.take_zero])|((first|(refine zT ?_;intro K' hK')|(refine zG ?_ ?_<;>(try refine zH ?_)<;>intro hguard<;>(try exact zX)<;>try intro K' hK'))<;>((try simp+contextual only [go_sem,hkI]);(repeat' first|(with_reducible refine hK' _ _ ?_;clear hK' K')|(with_reducible refine zK hVk ?_;try simp+contextual only [go_sem,hkI])|exact zY|with_reducible refine And.intro ?_ ?_|(with_reducible intro hpath;try exact zP)|(refine hK' _ _ ?_;clear hK' K')|fail);try refine zS ?_))|(refine zE ?_;refine hK _ _ ?_;clear hK K)|(refine zN ?_;try refine zS ?_)|refine zA ?_|(refine zB ?_;intro K hK)|(refine zC ?_ ?_<;>(try refine zH ?_)<;>intro hcond<;>try exact zX)|fail)
   simp only [List.drop_succ_cons,List.drop_zero]
   refine AReg.yield rfl rfl rfl (by rfl) (by with_unfolding_all rfl) (by simp [B0t]) (hY _ _ hgk) (hJ _) hJx ?_ ?_<;>(try refine zS ?_)<;>refine AReg.rest (fun K hK=> ?_)
   ·
    repeat' (first|((first|(refine zT ?_;intro K' hK')|(refine zG ?_ ?_<;>(try refine zH ?_)<;>intro hguard<;>(try exact zX)<;>try intro K' hK'))<;>((try simp+contextual only [go_sem]);(repeat' first|(with_reducible refine hK' _ _ ?_;clear hK' K')|exact zY|with_reducible refine And.intro ?_ ?_|(with_reducible intro hpath;try exact zP)|(refine hK' _ _ ?_;clear hK' K')|fail);try refine zS ?_))|(refine zE ?_;refine hK _ _ ?_;clear hK K)|(refine zN ?_;try refine zS ?_)|refine zA ?_|(refine zB ?_;intro K hK)|(refine zC ?_ ?_<;>(try refine zH ?_)<;>intro hcond<;>try exact zX)|fail)
    refine ⟨k+1,A0r.headN 1 23 [0,1,7,8] (zV2 @A0o @A0m),?_,?_⟩
    ·exact hkl
    ·omega
   ·
    repeat' (first|((first|(refine zT ?_;intro K' hK')|(refine zG ?_ ?_<;>(try refine zH ?_)<;>intro hguard<;>(try exact zX)<;>try intro K' hK'))<;>((try simp+contextual only [go_sem]);(repeat' first|(with_reducible refine hK' _ _ ?_;clear hK' K')|exact zY|with_reducible refine And.intro ?_ ?_|(with_reducible intro hpath;try exact zP)|(refine hK' _ _ ?_;clear hK' K')|fail);try refine zS ?_))|(refine zE ?_;refine hK _ _ ?_;clear hK K)|(refine zN ?_;try refine zS ?_)|refine zA ?_|(refine zB ?_;intro K hK)|(refine zC ?_ ?_<;>(try refine zH ?_)<;>intro hcond<;>try exact zX)|fail)
    exact ⟨True.intro,_,.inr rfl⟩
  ·have hnl: ¬(k:Int)<(n:Int):=by omega
   have ek:k=n:=by omega
   rw [ek]
   rw [ek] at hnl
   refine zR (zc @hnl trivial) trivial trivial ?_
   exact ⟨True.intro,_,.inl rfl⟩
theorem B8G (g:G):ACall Try.prog 73 [tG g] (.t (.fn 95 [.rptr [.int .i64 g.n,.slice (A0b g.es)]])):=by
 obtain ⟨n,es⟩:=g
 refine ACall.of_body Try.func73 rfl (by kernel_rfl) ?_
 simp only [entry,Try.ntmps73,tG]
 refine zU ?_
 refine zR trivial trivial trivial ?_
 simp [A0J,A0I,Blk.cells,ty,Try.results73,A05,A08,toT,A0e,A0c,A0d,A0a]
theorem B1e {n:Nat} {es:List E} (g:Gok n es) (hs:sizeE es≤1000):ACall Try.prog 52 [tG ⟨(n:Int),es⟩] (A00 (A8k n es)):=by
 have hA:=B8G ⟨(n:Int),es⟩
 have hIt:=B7z g
 have h12:=g.h12
 have h1:=g.h1
 have hnI:(0:Int)≤(n:Int):=by omega
 have hcl:=fun k=>A7i n es k
 have hcs:=fun k=>B7y n es (i:=k)
 have hvb: ∀v,v<n→0≤sumR (mulE es v) n∧sumR (mulE es v) n≤1000:=fun v _=>⟨A0M fun u _=>A1t g.hE _ _,Int.le_trans (A3l g.hE v) hs⟩
 have hne: ∀k,iC (B1d n es k)≠[]:=fun k=>A8w (by intro e; have:=hcl k; rw [e] at this; simp at this; omega)
 refine ACall.of_body Try.func52 rfl (by kernel_rfl) ?_
 simp only [entry,Try.ntmps52,tG]
 refine zU ?_
 refine zJ (stop 2) (zc @A1N (zc @Nat.zero_add trivial)) trivial trivial trivial ?_
 rw [←B5Y n es]
 repeat' (first|((first|(refine zT ?_;intro K' hK')|(refine zG ?_ ?_<;>(try refine zH ?_)<;>intro hguard<;>(try exact zX)<;>try intro K' hK'))<;>((try simp+contextual only [go_sem,tG,ofT,A2G,A0s,List.map_cons,List.map_nil]);(repeat' first|(with_reducible refine hK' _ _ ?_;clear hK' K')|(with_reducible refine zK hA ?_;try simp+contextual only [go_sem,tG,ofT,A2G,A0s,List.map_cons,List.map_nil])|exact zY|with_reducible refine And.intro ?_ ?_|(with_reducible intro hpath;try exact zP)|(refine hK' _ _ ?_;clear hK' K')|fail);try refine zS ?_))|(refine zE ?_;refine hK _ _ ?_;clear hK K)|(refine zN ?_;try refine zS ?_)|refine zA ?_|(refine zB ?_;intro K hK)|(refine zC ?_ ?_<;>(try refine zH ?_)<;>intro hcond<;>try exact zX)|fail)
 refine AWp.weak (A0r.head (m:=3) (by omega) ((fun t f=>[f,t,f,t,f,f,f,f,f,f,t,f,f,f,f,f,f,f,f]) true false) (by first | rfl | simp [mask]) (by first | rfl | simp) (by (repeat' (first | exact A0n _ | refine A0k ?_ ?_ | refine A0f ?_ ?_ | exact A0i _ | exact True.intro | (show _<_; omega) | (intro c hc; cases hc; done) | (intro c hc; simp only [List.mem_cons,List.not_mem_nil,or_false] at hc; subst hc; first | exact True.intro | (show _<_; omega)) | (intro c hc; simp only [List.mem_cons,List.not_mem_nil,or_false] at hc; rcases hc with rfl | rfl<;>first | exact True.intro | (show _<_; omega))))) (by (repeat' (first | exact A0n _ | exact A0z _ | exact A0i _ | refine And.intro ?_ ?_ | refine A0k ?_ ?_ | refine A0g ?_ ?_ | refine A0f ?_ ?_ | exact True.intro | exact A0o | exact A0m | (show _<_; omega) | exact A0v (fun _=>True.intro) | (intro c hc; cases hc; done) | (intro c hc; simp only [List.mem_cons,List.not_mem_nil,or_false] at hc; subst hc; first | exact True.intro | exact A0o | exact A0m | (show _<_; omega)) | (intro c hc; simp only [List.mem_cons,List.not_mem_nil,or_false] at hc; rcases hc with rfl | rfl<;>first | exact True.intro | exact A0o | exact A0m | (show _<_; omega)))))) (AWp.rangeFunc (fun k H=>H=[.box [.int .i64 (n:Int),.slice (A0b es) .none],.box (iC (B1d n es k)),.box [.ref 1 1 0 n n]]∧(True)) (fun _ _=>False) 3 rfl (hIt) (fun k ts hts=>by obtain ⟨_,rfl⟩:=A9a hts; rfl) (by omega) (by (repeat' (first | exact A0n _ | refine A0k ?_ ?_ | refine A0f ?_ ?_ | exact A0i _ | exact True.intro | (show _<_; omega) | (intro c hc; cases hc; done) | (intro c hc; simp only [List.mem_cons,List.not_mem_nil,or_false] at hc; subst hc; first | exact True.intro | (show _<_; omega)) | (intro c hc; simp only [List.mem_cons,List.not_mem_nil,or_false] at hc; rcases hc with rfl | rfl<;>first | exact True.intro | (show _<_; omega))))) (by rintro _ _ ⟨rfl,-⟩; simp [hne]) (fun _ _ h=>h.elim) ?_ (fun l k ts H hts hI=> ?_) (fun H hI=> ?_) (fun e H h=>h.elim))
 ·exact ⟨rfl,trivial⟩
 ·obtain ⟨rfl,-⟩:=hI
  obtain ⟨hkl,rfl⟩:=A9a hts
  have hkI:(k:Int)<(n:Int):=by omega
  have hv:=hvb k hkl
  have hs1:=hcs k hkl
  have hl0:=hcl k
  have hst:=A3k (B1d n es k) k (sumR (mulE es k) n-2)
  rw [hs1] at hst
  clear hcl hcs hvb hIt
  generalize sumR (mulE es k) n=r at*
  generalize hN1:B1d n es (k+1)=N1 at*
  generalize B1d n es k=N0 at*
  simp only [mask,A5h,List.zip_cons_cons,List.zip_nil_right,List.zip_nil_left,List.foldl_cons,List.foldl_nil,List.set_cons_succ,List.set_cons_zero,ofT,A2G,A0s,List.map_cons,List.map_nil,ofT,A2G,toT,A08,A0a,A0j,A0G,A4S,tG,A4Z,A00,A3Y]
  refine zR (zc @hkI (zc @hst (zc @hl0 (zc @A0H (zc @Nat.zero_add trivial))))) trivial trivial ?_
  refine ⟨⟨_,_⟩,A0r.head2 (m:=3) (by decide) ((fun t f=>[f,f,f,f,f,f,f,f,f,f,f,f,f,f,f,f,f,f,f]) true false) rfl rfl (zV2 @A0o @A0m),?_,?_⟩
  ·rw [hN1]; rfl
  ·trivial
 ·obtain ⟨rfl,-⟩:=hI
  rw [A61]
  have hl1:=hcl n
  have ec:A8k n es=B1d n es n:=rfl
  rw [ec]
  clear hcl hcs hvb hIt hne
  generalize B1d n es n=d at*
  have hr0:A0e [.box [.int .i64 (n:Int),.slice (A0b es) .none],.box (iC d),.box [.ref 1 1 0 n n]] (.ref 1 1 0 n n)=some (.slice (A0q d)):=A6F hl1 rfl
  simp only [mask]
  refine zR trivial trivial trivial ?_
  simp [A0J,A0I,Try.results52,A05,A08,toT,hr0,A00]
theorem B1f {n:Nat} {es:List E} (g:Gok n es) (hs:sizeE es≤1000):ACall Try.prog 26 [tG ⟨(n:Int),es⟩] (.tup [A00 (A8k n es),A0j 0]):=by
 have hl:=g.hl
 have hJ:=B3Y ⟨(n:Int),es⟩ hl
 have hj:A02 ⟨(n:Int),es⟩=0:=by unfold A02; rw [if_neg (fun q=>q g.hc),if_pos g.hcc]
 rw [hj] at hJ
 have hC:=B1e g hs
 generalize A8k n es=d at*
 refine ACall.of_body Try.func26 rfl (by kernel_rfl) ?_
 simp only [entry,Try.ntmps26,tG]
 refine zU ?_
 refine zR trivial (zc hJ (zc hC trivial)) trivial ?_
 simp [A0J,A0I,Blk.cells,ty,Try.results26,A05,A08,toT,A0e,A0c,A0d,A0a,A0j,A00]
end Go.Proofs.Ytdhfgihnoimoaaa
