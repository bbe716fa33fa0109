/- A part of the proof. -/
import Derived.Test.YtdhfgihnoimoaaaPart10
import Derived.Test.YtdhfgihnoimoaaaPart07
import Derived.Test.YtdhfgihnoimoaaaLayerC
set_option linter.all false
set_option maxHeartbeats 4000000
set_option maxRecDepth 100000
namespace Go.Proofs.Ytdhfgihnoimoaaa
open Go.Sp
def sumR (f:Nat→Int):Nat→Int
 | 0=>0
 | n+1=>sumR f n+f n
theorem A1g (f g:Nat→Int) (n:Nat):sumR (fun i=>f i+g i) n=sumR f n+sumR g n:=by
 induction n with
 | zero=>rfl
 | succ n ih=>simp only [sumR,ih]; omega
theorem A0M {f:Nat→Int} {n:Nat} (h: ∀i,i<n→f i=0):sumR f n=0:=by
 induction n with
 | zero=>rfl
 | succ n ih=>simp only [sumR,ih fun i hi=>h i (by omega),h n (by omega)]; rfl
theorem A0k {f g:Nat→Int} {n:Nat} (h: ∀i,i<n→f i=g i):sumR f n=sumR g n:=by
 induction n with
 | zero=>rfl
 | succ n ih=>simp only [sumR,ih fun i hi=>h i (by omega),h n (by omega)]
theorem B1F {es:List E} (h:es.Pairwise ltE):distinctE es:=h.imp fun {x y} h=>by unfold ltE at h; unfold neE; omega
theorem B4U {es:List E} {a b:Int} (h: ∀x,x∈es→ ¬(x.a=a∧x.b=b)):A6U es a b=0:=by
 induction es with
 | nil=>rfl
 | cons x xs ih=>simp only [A6U]; rw [if_neg (h x (by simp)),ih fun y hy=>h y (by simp [hy])]
theorem B4V {x:E} {xs:List E} (h:distinctE (x::xs)) (a b:Int):A6U (x::xs) a b=(if x.a=a∧x.b=b then x.m else 0)+A6U xs a b:=by
 simp only [A6U]
 by_cases hx:x.a=a∧x.b=b
 ·rw [if_pos hx,if_pos hx,B4U fun y hy=>by
   have:=(List.pairwise_cons.1 h).1 y hy
   unfold neE at this; omega]
  omega
 ·rw [if_neg hx,if_neg hx]; omega
theorem A8E (x:E) (xs:List E):endsL (x::xs)=List.replicate x.m.toNat (x.a,x.b)++endsL xs:=by simp [endsL]
set_option maxHeartbeats 1000000
theorem A1s {f g:Nat→Int} {n:Nat} (h: ∀i,i<n→f i≤g i):sumR f n≤sumR g n:=by
 induction n with
 | zero=>exact Int.le_refl _
 | succ n ih=>simp only [sumR]; have:=ih fun i hi=>h i (by omega); have:=h n (by omega); omega
theorem A0W {f:Nat→Int} {n:Nat} (h: ∀i,i<n→0≤f i):0≤sumR f n:=by
 have:=A1s (f:=fun _=>0) (g:=f) h
 rwa [A0M fun _ _=>rfl] at this
theorem A1i (f g:Nat→Int) (n:Nat):sumR (fun i=>f i-g i) n=sumR f n-sumR g n:=by
 induction n with
 | zero=>rfl
 | succ n ih=>simp only [sumR,ih]; omega
theorem A4G (c:Int) (f:Nat→Int) (n:Nat):sumR (fun i=>c*f i) n=c*sumR f n:=by
 induction n with
 | zero=>simp [sumR]
 | succ n ih=>simp only [sumR,ih,Int.mul_add]
theorem A1H (c:Int) (n:Nat):sumR (fun _=>c) n=n*c:=by
 induction n with
 | zero=>simp [sumR]
 | succ n ih=>simp only [sumR,ih]; rw [Int.natCast_add,Int.add_mul]; simp
theorem A7R (f:Nat→Nat→Int) (n m:Nat):sumR (fun i=>sumR (f i) m) n=sumR (fun j=>sumR (fun i=>f i j) n) m:=by
 induction n with
 | zero=>simp only [sumR]; rw [A0M fun _ _=>rfl]
 | succ n ih=>simp only [sumR,ih]; rw [←A1g]
theorem A0X {f:Nat→Int}: ∀{n:Nat},(∀i,i<n→0≤f i)→ ∀{j:Nat},j<n→f j≤sumR f n
 | 0,_,j,hj=>by omega
 | n+1,h,j,hj=>by
  simp only [sumR]
  by_cases e:j=n
  ·subst e; have:=A0W (f:=f) (n:=j) fun i hi=>h i (by omega); omega
  ·have:=A0X (n:=n) (fun i hi=>h i (by omega)) (j:=j) (by omega)
   have:=h n (by omega); omega
theorem A0L (c:Int) (j:Nat): ∀{n:Nat},j<n→sumR (fun i=>if i=j then c else 0) n=c
 | 0,h=>by omega
 | n+1,h=>by
  simp only [sumR]
  by_cases e:j=n
  ·subst e; rw [if_pos rfl,A0M fun i hi=>if_neg (by omega)]; omega
  ·rw [if_neg (by omega),A0L c j (n:=n) (by omega)]; omega
structure Mult (n:Nat) (M:Nat→Nat→Int):Prop where
 sym: ∀u v,M u v=M v u
 pos: ∀u v,0≤M u v
 dia: ∀v,M v v=0
 con: ∀S:Nat→Bool,(∃v,v<n∧S v=true)→(∃v,v<n∧S v=false)→ ∃u v,u<n∧v<n∧S u=true∧S v=false∧1≤M u v
def lap (n:Nat) (M:Nat→Nat→Int) (s:Nat→Int) (v:Nat):Int:=sumR (fun u=>M v u*(s v-s u)) n
def win (n:Nat) (M:Nat→Nat→Int) (D:Nat→Int):Prop:= ∃s:Nat→Int,∀v,v<n→0≤D v-lap n M s v
def A5m (n:Nat) (M:Nat→Nat→Int) (D E:Nat→Int):Prop:= ∃s:Nat→Int,∀v,v<n→E v=D v-lap n M s v
section
variable {n:Nat} {M:Nat→Nat→Int}
theorem A6q (s t:Nat→Int) (v:Nat):lap n M (fun u=>s u+t u) v=lap n M s v+lap n M t v:=by
 unfold lap; rw [←A1g]
 exact A0k fun u _=>by rw [←Int.mul_add]; congr 1; dsimp only; omega
theorem A9t (s:Nat→Int) (v:Nat):lap n M (fun u=> -s u) v= -lap n M s v:=by
 unfold lap
 have:sumR (fun u=>M v u*(-s v- -s u)) n=sumR (fun u=>(-1)*(M v u*(s v-s u))) n:=A0k fun u _=>by
  rw [show -s v- -s u= -(s v-s u) by omega,Int.mul_neg]; omega
 rw [this,A4G]; omega
theorem B1G (h:Mult n M) (s:Nat→Int):sumR (lap n M s) n=0:=by
 have e1:sumR (lap n M s) n=sumR (fun v=>sumR (fun u=>M v u*s v) n) n-sumR (fun v=>sumR (fun u=>M v u*s u) n) n:=by
  rw [←A1i]
  exact A0k fun v _=>by unfold lap; rw [←A1i]; exact A0k fun u _=>by rw [Int.mul_sub]
 have e2:sumR (fun v=>sumR (fun u=>M v u*s u) n) n=sumR (fun v=>sumR (fun u=>M v u*s v) n) n:=by
  rw [A7R]
  exact A0k fun v _=>A0k fun u _=>by rw [h.sym]
 omega
theorem A5m.refl (D:Nat→Int):A5m n M D D:=⟨fun _=>0,fun v _=>by unfold lap; rw [A0M fun u _=>by simp]; omega⟩
theorem A5m.symm {D E:Nat→Int} (h:A5m n M D E):A5m n M E D:=by
 obtain ⟨s,hs⟩:=h
 exact ⟨fun u=> -s u,fun v hv=>by rw [A9t,hs v hv]; omega⟩
theorem A5m.trans {D E F:Nat→Int} (h:A5m n M D E) (h':A5m n M E F):A5m n M D F:=by
 obtain ⟨s,hs⟩:=h; obtain ⟨t,ht⟩:=h'
 exact ⟨fun u=>s u+t u,fun v hv=>by rw [A6q,ht v hv,hs v hv]; omega⟩
theorem A5m.deg (hM:Mult n M) {D E:Nat→Int} (h:A5m n M D E):sumR E n=sumR D n:=by
 obtain ⟨s,hs⟩:=h
 rw [A0k hs,A1i,B1G hM]; omega
theorem A5m.plus {D E:Nat→Int} (h:A5m n M D E) (F:Nat→Int):A5m n M (fun v=>D v+F v) (fun v=>E v+F v):=by
 obtain ⟨s,hs⟩:=h
 exact ⟨s,fun v hv=>by simp only; rw [hs v hv]; omega⟩
theorem A5m.neg {D E:Nat→Int} (h:A5m n M D E):A5m n M (fun v=> -D v) (fun v=> -E v):=by
 obtain ⟨s,hs⟩:=h
 exact ⟨fun u=> -s u,fun v hv=>by simp only; rw [A9t,hs v hv]; omega⟩
theorem A5m.of_eq {D E:Nat→Int} (h: ∀v,v<n→E v=D v):A5m n M D E:=by
 obtain ⟨s,hs⟩:=A5m.refl (n:=n) (M:=M) D
 exact ⟨s,fun v hv=>by rw [h v hv]; exact hs v hv⟩
theorem A6r {D:Nat→Int}:win n M D↔ ∃E,A5m n M D E∧ ∀v,v<n→0≤E v:=by
 constructor
 ·rintro ⟨s,hs⟩; exact ⟨fun v=>D v-lap n M s v,⟨s,fun _ _=>rfl⟩,hs⟩
 ·rintro ⟨E,⟨s,hs⟩,hE⟩; exact ⟨s,fun v hv=>by rw [←hs v hv]; exact hE v hv⟩
theorem win.eqv {D E:Nat→Int} (h:win n M D) (he:A5m n M D E):win n M E:=by
 rw [A6r] at h ⊢
 obtain ⟨F,h1,h2⟩:=h
 exact ⟨F,he.symm.trans h1,h2⟩
theorem win.mono {D E:Nat→Int} (h:win n M D) (hle: ∀v,v<n→D v≤E v):win n M E:=by
 obtain ⟨s,hs⟩:=h
 exact ⟨s,fun v hv=>by have:=hs v hv; have:=hle v hv; omega⟩
theorem win.deg (hM:Mult n M) {D:Nat→Int} (h:win n M D):0≤sumR D n:=by
 rw [A6r] at h
 obtain ⟨E,h1,h2⟩:=h
 rw [←h1.deg hM]; exact A0W h2
def twoE (n:Nat) (M:Nat→Nat→Int):Int:=sumR (fun v=>sumR (M v) n) n
def B27 (n:Nat) (M:Nat→Nat→Int) (r:Nat→Nat) (v:Nat):Int:=sumR (fun u=>if r u<r v then M v u else 0) n-1
theorem A6s (s:Nat→Int): ∀{n:Nat},0<n→ ∃v,v<n∧ ∀u,u<n→s u≤s v
 | 0,h=>by omega
 | 1,_=>⟨0,by omega,fun u hu=>by rw [show u=0 by omega]; exact Int.le_refl _⟩
 | n+2,_=>by
  obtain ⟨v,h1,h2⟩:=A6s s (n:=n+1) (by omega)
  by_cases h:s v≤s (n+1)
  ·exact ⟨n+1,by omega,fun u hu=>by
    by_cases e:u=n+1
    ·rw [e]; exact Int.le_refl _
    ·have:=h2 u (by omega); omega⟩
  ·exact ⟨v,by omega,fun u hu=>by
    by_cases e:u=n+1
    ·rw [e]; omega
    ·exact h2 u (by omega)⟩
theorem B69 (r:Nat→Nat) {P:Nat→Prop} {v:Nat} (h:P v): ∃u,P u∧ ∀w,P w→r u≤r w:=by
 have key: ∀k,∀v,P v→r v≤k→ ∃u,P u∧ ∀w,P w→r u≤r w:=by
  intro k
  induction k with
  | zero=>intro v hv hk; exact ⟨v,hv,fun w _=>by omega⟩
  | succ k ih=>
   intro v hv hk
   by_cases hx: ∃w,P w∧r w<r v
   ·obtain ⟨w,h1,h2⟩:=hx; exact ih w h1 (by omega)
   ·exact ⟨v,hv,fun w hw=>Nat.le_of_not_lt fun hlt=>hx ⟨w,hw,hlt⟩⟩
 exact key _ v h (Nat.le_refl _)
theorem A7S (hM:Mult n M) (h0:0<n) (r:Nat→Nat): ¬win n M (B27 n M r):=by
 rintro ⟨s,hs⟩
 obtain ⟨v0,h1,h2⟩:=A6s s h0
 obtain ⟨v,⟨hv,hmax⟩,hmin⟩:=B69 r (P:=fun v=>v<n∧ ∀u,u<n→s u≤s v) ⟨h1,h2⟩
 have:=hs v hv
 have hle:sumR (fun u=>if r u<r v then M v u else 0) n≤lap n M s v:=A1s fun u hu=>by
  have hp:=hM.pos v u
  have hsu:=hmax u hu
  split
  ·rename_i hr
   have hne:s u<s v:=by
    refine Classical.byContradiction fun hx=> ?_
    have:=hmin u ⟨hu,fun w hw=>by have:=hmax w hw; omega⟩
    omega
   have:=Int.mul_le_mul_of_nonneg_left (show 1≤s v-s u by omega) hp
   omega
  ·exact Int.mul_nonneg hp (by omega)
 unfold B27 at this
 omega
theorem A9u (hM:Mult n M) {r:Nat→Nat} (hr: ∀u v,u<n→v<n→r u=r v→u=v):2*sumR (B27 n M r) n=twoE n M-2*n:=by
 have e1:sumR (B27 n M r) n=sumR (fun v=>sumR (fun u=>if r u<r v then M v u else 0) n) n-n:=by
  unfold B27; rw [A1i,A1H]; omega
 have e2:sumR (fun v=>sumR (fun u=>if r u<r v then M v u else 0) n) n=sumR (fun v=>sumR (fun u=>if r v<r u then M v u else 0) n) n:=by
  rw [A7R]
  exact A0k fun v _=>A0k fun u _=>by rw [hM.sym]
 have e3:twoE n M=sumR (fun v=>sumR (fun u=>if r u<r v then M v u else 0) n) n+sumR (fun v=>sumR (fun u=>if r v<r u then M v u else 0) n) n:=by
  unfold twoE
  rw [←A1g]
  refine A0k fun v hv=> ?_
  rw [←A1g]
  refine A0k fun u hu=> ?_
  rcases Nat.lt_trichotomy (r u) (r v) with h | h | h
  ·rw [if_pos h,if_neg (by omega)]; omega
  ·have:=hr u v hu hv h; subst this; rw [if_neg (by omega),hM.dia]; rfl
  ·rw [if_neg (by omega),if_pos h]; omega
 omega
def B4h (n:Nat) (M:Nat→Nat→Int) (v:Nat):Int:=sumR (M v) n-2
theorem B4W (hM:Mult n M) {r:Nat→Nat} (hr: ∀u v,u<n→v<n→r u=r v→u=v): ∃r':Nat→Nat,(∀u v,u<n→v<n→r' u=r' v→u=v)∧ ∀v,v<n→B4h n M v-B27 n M r v=B27 n M r' v:=by
 have hb: ∃k,∀v,v<n→r v≤k:=by
  clear hr hM
  induction n with
  | zero=>exact ⟨0,fun v hv=>by omega⟩
  | succ n ih=>
   obtain ⟨k,hk⟩:=ih
   exact ⟨max k (r n),fun v hv=>by
    by_cases e:v=n
    ·subst e; exact Nat.le_max_right _ _
    ·exact Nat.le_trans (hk v (by omega)) (Nat.le_max_left _ _)⟩
 obtain ⟨k,hk⟩:=hb
 refine ⟨fun v=>k-r v,fun u v hu hv h=>hr u v hu hv (by have:=hk u hu; have:=hk v hv; dsimp only at h; omega),fun v hv=> ?_⟩
 have:sumR (M v) n=sumR (fun u=>if r u<r v then M v u else 0) n+sumR (fun u=>if k-r u<k-r v then M v u else 0) n:=by
  rw [←A1g]
  refine A0k fun u hu=> ?_
  have h1:=hk u hu
  have h2:=hk v hv
  rcases Nat.lt_trichotomy (r u) (r v) with h | h | h
  ·rw [if_pos h,if_neg (by omega)]; omega
  ·have:=hr u v hu hv h; subst this; rw [if_neg (by omega),hM.dia]; simp
  ·rw [if_neg (by omega),if_pos (by omega)]; omega
 unfold B4h B27
 dsimp only
 omega
end
end Go.Proofs.Ytdhfgihnoimoaaa
