/- A part of the proof. -/
import Derived.Test.YtdhfgihnoimoaaaPart13
import Derived.Test.YtdhfgihnoimoaaaLayerC
import Derived.Test.YtdhfgihnoimoaaaPart05
set_option linter.all false
set_option maxHeartbeats 4000000
set_option maxRecDepth 100000
namespace Go.Proofs.Ytdhfgihnoimoaaa
open Go.Sp
theorem A9v {α:Type} {P:List α→Prop} (h0:P []) (h1: ∀l x,P l→P (l++[x])) (l:List α):P l:=by
 have: ∀r:List α,P r.reverse:=fun r=>by
  induction r with
  | nil=>simpa using h0
  | cons x xs ih=>rw [List.reverse_cons]; exact h1 _ _ ih
 simpa using this l.reverse
inductive Conn (l:List (Int×Int)) (a:Nat):Nat→Prop
 | refl:Conn l a a
 | step {b c:Nat}:Conn l a b→(((b:Int),(c:Int))∈l∨((c:Int),(b:Int))∈l)→Conn l a c
theorem Conn.trans {l:List (Int×Int)} {a b c:Nat} (h1:Conn l a b) (h2:Conn l b c):Conn l a c:=by
 induction h2 with
 | refl=>exact h1
 | step _ h ih=>exact .step ih h
theorem Conn.one {l:List (Int×Int)} {b c:Nat} (h:((b:Int),(c:Int))∈l∨((c:Int),(b:Int))∈l):Conn l b c:= .step .refl h
theorem Conn.symm {l:List (Int×Int)} {a b:Nat} (h:Conn l a b):Conn l b a:=by
 induction h with
 | refl=>exact .refl
 | step _ h ih=>exact (Conn.one h.symm).trans ih
theorem Conn.mono {l m:List (Int×Int)} (hs: ∀p,p∈l→p∈m) {a b:Nat} (h:Conn l a b):Conn m a b:=by
 induction h with
 | refl=>exact .refl
 | step _ h ih=>exact .step ih (h.imp (hs _) (hs _))
theorem Conn.bound {l:List (Int×Int)} {n:Nat} (hr: ∀p,p∈l→(0≤p.1∧p.1<n)∧(0≤p.2∧p.2<n)) {a b:Nat} (h:Conn l a b) (ha:n≤a):b=a:=by
 induction h with
 | refl=>rfl
 | step _ h ih=>
  rcases h with h | h
  ·have:=hr _ h; simp only at this; omega
  ·have:=hr _ h; simp only at this; omega
theorem A7e {F:List Nat} (h:FOk F): ∀{u:Nat},u<12→F[rootF F 12 u]? =some (rootF F 12 u):=by
 intro u
 induction u using Nat.strongRecOn with
 | _ u ih=>
  intro hu
  have hul:u<F.length:=by rw [h.len]; exact hu
  have hle:=h.le u hul
  rw [A2I h hul]
  by_cases e:F[u]=u
  ·rw [if_pos e,List.getElem?_eq_getElem hul,e]
  ·rw [if_neg e]; exact ih _ (by omega) (by omega)
theorem A40 {F:List Nat} (h:FOk F) {u:Nat} (hu:u<12) (e:F[u]? =some u):rootF F 12 u=u:=by
 have hul:u<F.length:=by rw [h.len]; exact hu
 rw [A2I h hul,if_pos (by rw [List.getElem?_eq_getElem hul] at e; exact Option.some.inj e)]
theorem root_lt {F:List Nat} (h:FOk F) {u:Nat} (hu:u<12):rootF F 12 u<12:=by
 have:=A2x h (n:=12) hu; omega
theorem A9w {F:List Nat} (h:FOk F) {u:Nat} (hu:u<12):rootF F 12 u=u↔F[u]? =some u:=
 ⟨fun e=>by have:=A7e h hu; rwa [e] at this,A40 h hu⟩
theorem B34 {F:List Nat} (h:FOk F) {M m:Nat} (hM:M<12) (hm:m≤M) (eM:F[M]? =some M) (em:F[m]? =some m): ∀{u:Nat},u<12→rootF (F.set M m) 12 u=if rootF F 12 u=M then m else rootF F 12 u:=by
 have h':FOk (F.set M m):=⟨by simp [h.len],fun i hi=>by
  rw [List.getElem_set]; split
  ·omega
  ·exact h.le i (by simpa using hi)⟩
 intro u
 induction u using Nat.strongRecOn with
 | _ u ih=>
  intro hu
  have hul:u<F.length:=by rw [h.len]; exact hu
  have hul':u<(F.set M m).length:=by simpa using hul
  have hle:=h.le u hul
  rw [A2I h' hul',List.getElem_set]
  by_cases e:M=u
  ·subst e
   rw [if_pos rfl,A40 h hu eM,if_pos rfl]
   by_cases e2:m=M
   ·rw [if_pos e2]; exact e2.symm
   ·rw [if_neg e2,ih m (by omega) (by omega),A40 h (by omega) em,if_neg e2]
  ·rw [if_neg e,A2I h hul]
   by_cases e2:F[u]=u
   ·rw [if_pos e2,if_pos e2,if_neg (fun x=>e x.symm)]
   ·rw [if_neg e2,if_neg e2]; exact ih _ (by omega) (by omega)
def rootsN (F:List Nat):Nat→Int
 | 0=>0
 | k+1=>rootsN F k+(if F[k]? =some k then 1 else 0)
theorem B35 {F:List Nat} {M m:Nat} (hM:M<F.length) (hne:m≠M) (eM:F[M]? =some M) (k:Nat):rootsN (F.set M m) k=rootsN F k-(if M<k then 1 else 0):=by
 induction k with
 | zero=>simp [rootsN]
 | succ k ih=>
  simp only [rootsN,ih]
  by_cases e:M=k
  ·subst e
   rw [List.getElem?_set_self hM,if_neg (show ¬(some m=some M) from fun h=>hne (Option.some.inj h)),if_pos eM,if_neg (show ¬M<M by omega),if_pos (show M<M+1 by omega)]; omega
  ·rw [List.getElem?_set_ne e]
   by_cases e2:M<k
   ·rw [if_pos e2,if_pos (show M<k+1 by omega)]; omega
   ·rw [if_neg e2,if_neg (show ¬M<k+1 by omega)]; omega
structure UF (l:List (Int×Int)):Prop where
 ok:FOk (genS l).1
 sound: ∀u,u<12→Conn l u (rootF (genS l).1 12 u)
 all: ∀p,p∈l→rootF (genS l).1 12 p.1.toNat=rootF (genS l).1 12 p.2.toNat
 cnt:(genS l).2+12=l.length+rootsN (genS l).1 12
def B4Y (l:List (Int×Int)):Prop:= ∀p,p∈l→(0≤p.1∧p.1<12)∧(0≤p.2∧p.2<12)
theorem uf (l:List (Int×Int)) (hr:B4Y l):UF l:=by
 revert hr
 refine A9v (P:=fun l=>B4Y l→UF l) ?_ ?_ l
 ·intro _
  have h0:FOk (List.range 12):=⟨by simp,fun i hi=>by simp⟩
  refine ⟨h0,fun u hu=> ?_,(fun p hp=>absurd hp (by simp)),?_⟩
  ·have e:rootF (genS []).1 12 u=u:=A40 h0 hu (by rw [List.getElem?_range hu])
   rw [e]; exact .refl
  ·decide
 ·intro l p ih hr
  have hl:=ih fun q hq=>hr q (by simp [hq])
  have hp:=hr p (by simp)
  obtain ⟨ok,sound,all,cnt⟩:=hl
  have hsn:=A7L l p
  have ok':=A8C (s:=genS l) ok hp.1 hp.2
  rw [←hsn] at ok'
  generalize hF:(genS l).1=F at*
  generalize hc:(genS l).2=c at*
  have h1:p.1.toNat<12:=by omega
  have h2:p.2.toNat<12:=by omega
  have e1:=A7e ok h1
  have e2:=A7e ok h2
  have l1:=root_lt ok h1
  have l2:=root_lt ok h2
  have hgF:(genS (l++[p])).1=F.set (max (rootF F 12 p.1.toNat) (rootF F 12 p.2.toNat)) (min (rootF F 12 p.1.toNat) (rootF F 12 p.2.toNat)):=by rw [hsn]; simp only [A1D,hF]
  have hgc:(genS (l++[p])).2=if rootF F 12 p.1.toNat=rootF F 12 p.2.toNat then c+1 else c:=by rw [hsn]; simp only [A1D,hF,hc]
  have c1:=sound _ h1
  have c2:=sound _ h2
  have hsub: ∀q,q∈l→q∈l++[p]:=fun q hq=>by simp [hq]
  have hpp:Conn (l++[p]) p.1.toNat p.2.toNat:=Conn.one (.inl (by
   have:((p.1.toNat:Nat):Int)=p.1:=by omega
   have h3:((p.2.toNat:Nat):Int)=p.2:=by omega
   rw [this,h3]; simp))
  have hab:Conn (l++[p]) (rootF F 12 p.1.toNat) (rootF F 12 p.2.toNat):=((c1.mono hsub).symm.trans hpp).trans (c2.mono hsub)
  generalize ha:rootF F 12 p.1.toNat=a at*
  generalize hb:rootF F 12 p.2.toNat=b at*
  have eM:F[max a b]? =some (max a b):=by rcases Nat.le_total a b with h | h<;>simp [Nat.max_eq_right,Nat.max_eq_left,h,e1,e2]
  have em:F[min a b]? =some (min a b):=by rcases Nat.le_total a b with h | h<;>simp [Nat.min_eq_right,Nat.min_eq_left,h,e1,e2]
  have hun:=fun {u:Nat} (hu:u<12)=>B34 ok (M:=max a b) (m:=min a b) (by omega) (by omega) eM em hu
  refine ⟨ok',fun u hu=> ?_,fun q hq=> ?_,?_⟩
  ·rw [hgF,hun hu]
   have hs:=(sound u hu).mono hsub
   by_cases e:rootF F 12 u=max a b
   ·rw [if_pos e]
    refine hs.trans ?_
    rw [e]
    rcases Nat.le_total a b with h | h
    ·rw [Nat.max_eq_right h,Nat.min_eq_left h]; exact hab.symm
    ·rw [Nat.max_eq_left h,Nat.min_eq_right h]; exact hab
   ·rw [if_neg e]; exact hs
  ·rw [hgF]
   rcases List.mem_append.1 hq with hq | hq
   ·have hq2:=hr q (by simp [hq])
    rw [hun (by omega),hun (by omega),all q hq]
   ·obtain rfl:=List.mem_singleton.1 hq
    rw [hun h1,hun h2,ha,hb]
    by_cases x:a=max a b<;>by_cases y:b=max a b
    ·rw [if_pos x,if_pos y]
    ·rw [if_pos x,if_neg y]; omega
    ·rw [if_neg x,if_pos y]; omega
    ·omega
  ·rw [hgF,hgc,List.length_append,List.length_singleton]
   by_cases e:a=b
   ·subst e
    rw [if_pos rfl,Nat.max_self,Nat.min_self]
    have hal:a<F.length:=by rw [ok.len]; exact l1
    have:F.set a a=F:=by
     apply List.ext_getElem?
     intro i
     by_cases hi:a=i
     ·subst hi; rw [List.getElem?_set_self hal,e1]
     ·rw [List.getElem?_set_ne hi]
    rw [this]; omega
   ·rw [if_neg e,B35 (by rw [ok.len]; omega) (by omega) eM,if_pos (by omega)]; omega
theorem B4Z {l:List (Int×Int)} (hr:B4Y l) {u w:Nat} (hu:u<12) (hw:w<12):Conn l u w↔rootF (genS l).1 12 u=rootF (genS l).1 12 w:=by
 have h:=uf l hr
 constructor
 ·intro hc
  have key: ∀w,Conn l u w→w<12→rootF (genS l).1 12 u=rootF (genS l).1 12 w:=by
   intro w hc
   induction hc with
   | refl=>intro _; rfl
   | step _ hh ih=>
    intro hw
    rename_i b c _
    rcases hh with hh | hh
    ·have:=hr _ hh
     rw [ih (by omega)]; simpa using h.all _ hh
    ·have:=hr _ hh
     rw [ih (by omega)]; simpa using (h.all _ hh).symm
  exact key w hc hw
 ·intro e
  have h1:=h.sound u hu
  have h2:=h.sound w hw
  rw [e] at h1
  exact h1.trans h2.symm
theorem A39 {l:List (Int×Int)} (hr:B4Y l) {v:Nat} (hv:v<12):(genS l).1[v]? =some v↔ ¬ ∃u,u<v∧Conn l u v:=by
 have h:=uf l hr
 rw [←A9w h.ok hv]
 constructor
 ·rintro e ⟨u,hu,hc⟩
  have:=(B4Z hr (by omega) hv).1 hc
  have:=A2x h.ok (n:=12) (v:=u) (by omega)
  omega
 ·intro hn
  have hle:=A2x h.ok (n:=12) hv
  by_cases e:rootF (genS l).1 12 v=v
  ·exact e
  ·exact absurd ⟨_,by omega,(h.sound v hv).symm⟩ hn
def GT (R:List Bool) (u:Nat):Prop:=R.getD u false=true
theorem B8l {R:List Bool} {u:Nat} (h:GT R u):u<R.length:=by
 unfold GT at h
 rw [List.getD_eq_getElem?_getD] at h
 by_cases hu:u<R.length
 ·exact hu
 ·rw [List.getElem?_eq_none (by omega)] at h; simp at h
theorem B79 {R:List Bool} {b u:Nat} (hb:b<R.length):GT (R.set b true) u↔u=b∨GT R u:=by
 unfold GT
 rw [List.getD_eq_getElem?_getD,List.getD_eq_getElem?_getD]
 by_cases e:b=u
 ·subst e; rw [List.getElem?_set_self hb]; simp
 ·rw [List.getElem?_set_ne e]
  constructor
  ·intro h; exact .inr h
  ·rintro (h | h)
   ·exact absurd h.symm e
   ·exact h
theorem B1H {es:List E} {a b u:Nat} {R:List Bool} (hb:b<R.length):GT (A38 es a R b) u↔GT R u∨(u=b∧GT R a∧B4g es a b=true):=by
 unfold A38
 by_cases h:(R.getD a false&&B4g es a b)=true
 ·rw [if_pos h,B79 hb]
  simp only [Bool.and_eq_true] at h
  constructor
  ·rintro (rfl | h2)
   ·exact .inr ⟨rfl,h.1,h.2⟩
   ·exact .inl h2
  ·rintro (h2 | ⟨rfl,_⟩)
   ·exact .inr h2
   ·exact .inl rfl
 ·rw [if_neg h]
  simp only [Bool.and_eq_true,not_and] at h
  constructor
  ·exact .inl
  ·rintro (h2 | ⟨_,h3,h4⟩)
   ·exact h2
   ·exact absurd h4 (h h3)
theorem A3Q {f:List Bool→Nat→List Bool} (P:Nat→List Bool→Prop) {z:List Bool} (h0:P 0 z) (k:Nat) (h1: ∀i R,i<k→P i R→P (i+1) (f R i)):P k ((List.range k).foldl f z):=by
 induction k with
 | zero=>exact h0
 | succ k ih=>rw [A1a]; exact h1 _ _ (by omega) (ih fun i R hi=>h1 i R (by omega))
structure Rd (es:List E) (n:Nat) (R S:List Bool):Prop where
 len:S.length=n
 up: ∀u,GT R u→GT S u
theorem B6B {es:List E} {n a:Nat} {R:List Bool} (hl:R.length=n):Rd es n R (rRow es n a R)∧(GT R a→ ∀b,b<n→B4g es a b=true→GT (rRow es n a R) b):=by
 have:=A3Q (f:=A38 es a) (P:=fun k S=>Rd es n R S∧(GT R a→ ∀b,b<k→B4g es a b=true→GT S b)) (z:=R) ⟨⟨hl,fun u h=>h⟩,fun _ b hb=>by omega⟩ n (by
  rintro i S hi ⟨⟨h1,h2⟩,h3⟩
  refine ⟨⟨by rw [A5J,h1],fun u hu=>(B1H (by omega)).2 (.inl (h2 u hu))⟩,fun ha b hb hab=> ?_⟩
  rw [B1H (by omega)]
  by_cases e:b=i
  ·subst e; exact .inr ⟨rfl,h2 a ha,hab⟩
  ·exact .inl (h3 ha b (by omega) hab))
 exact this
theorem A8F {es:List E} {n:Nat} {R:List Bool} (hl:R.length=n):Rd es n R (A6H es n R)∧(∀a,a<n→GT R a→ ∀b,b<n→B4g es a b=true→GT (A6H es n R) b):=by
 have:=A3Q (f:=fun R a=>rRow es n a R) (P:=fun k S=>Rd es n R S∧(∀a,a<k→GT R a→ ∀b,b<n→B4g es a b=true→GT S b)) (z:=R) ⟨⟨hl,fun u h=>h⟩,fun a ha=>by omega⟩ n (by
  rintro i S hi ⟨⟨h1,h2⟩,h3⟩
  obtain ⟨⟨q1,q2⟩,q3⟩:=B6B (es:=es) (a:=i) h1
  refine ⟨⟨q1,fun u hu=>q2 u (h2 u hu)⟩,fun a ha hR b hb hab=> ?_⟩
  by_cases e:a=i
  ·subst e; exact q3 (h2 a hR) b hb hab
  ·exact q2 b (h3 a (by omega) hR b hb hab))
 exact this
def A7U (es:List E) (n:Nat) (R:List Bool):Prop:= ∀a,a<n→GT R a→ ∀b,b<n→B4g es a b=true→GT R b
theorem B5a {es:List E} {n a b:Nat} {R:List Bool} (hl:R.length=n) (hb:b<n) (ha:a<n) (h:A7U es n R):A38 es a R b=R:=by
 unfold A38
 by_cases hx:(R.getD a false&&B4g es a b)=true
 ·rw [if_pos hx]
  simp only [Bool.and_eq_true] at hx
  have:=h a ha hx.1 b hb hx.2
  apply List.ext_getElem?
  intro i
  by_cases e:b=i
  ·subst e
   rw [List.getElem?_set_self (by omega),List.getElem?_eq_getElem (by omega)]
   unfold GT at this
   rw [List.getD_eq_getElem?_getD,List.getElem?_eq_getElem (by omega)] at this
   simpa using this.symm
  ·rw [List.getElem?_set_ne e]
 ·rw [if_neg hx]
theorem B36 {es:List E} {n:Nat} {R:List Bool} (hl:R.length=n) (h:A7U es n R):A6H es n R=R:=by
 have:=A3Q (f:=fun R a=>rRow es n a R) (P:=fun k S=>S=R) (z:=R) rfl n (by
  rintro i S hi rfl
  have:=A3Q (f:=A38 es i) (P:=fun k T=>T=S) (z:=S) rfl n (by
   rintro j T hj rfl
   exact B5a hl hj hi h)
  exact this)
 exact this
def B1I:List Bool→Nat
 | []=>0
 | b::R=>(if b then 1 else 0)+B1I R
theorem B8m (R:List Bool):B1I R≤R.length:=by
 induction R with
 | nil=>exact Nat.le_refl _
 | cons b R ih=>simp only [B1I,List.length_cons]; split<;>omega
theorem B03: ∀{R S:List Bool},R.length=S.length→(∀u,GT R u→GT S u)→B1I R≤B1I S∧(B1I R=B1I S→R=S)
 | [],[],_,_=>⟨Nat.le_refl _,fun _=>rfl⟩
 | [],_::_,h,_=>by simp at h
 | _::_,[],h,_=>by simp at h
 | x::R,y::S,h,hu=>by
  have h0:=hu 0
  have ih:=B03 (R:=R) (S:=S) (by simpa using h) (fun u hx=>by have:=hu (u+1); unfold GT at*; simpa using this (by simpa using hx))
  unfold GT at h0
  simp only [B1I]
  cases x<;>cases y
  ·simp; exact ⟨ih.1,ih.2⟩
  ·simp; omega
  ·simp at h0
  ·simp
   refine ⟨ih.1,fun h=>ih.2 (by omega)⟩
theorem B29 {g:G} (hc:checkG g=0) {a b:Nat}:B4g g.es a b=true↔(((a:Int),(b:Int))∈endsL g.es∨((b:Int),(a:Int))∈endsL g.es):=by
 obtain ⟨h1,h2,h3⟩:=A02.1 hc
 unfold B4g
 rw [decide_eq_true_eq,B67 (fun e he=>by have:=h2 e he; unfold okE at this; omega)]
 have hmem: ∀e,e∈g.es→(e.a,e.b)∈endsL g.es:=fun e he=>by
  have:=h2 e he
  unfold okE at this
  exact List.mem_flatMap.2 ⟨e,he,List.mem_replicate.2 ⟨by omega,rfl⟩⟩
 constructor
 ·rintro ⟨e,he,e1,e2⟩
  have:=hmem e he
  rw [e1,e2] at this
  rcases Nat.le_total a b with h | h
  ·left; rwa [show min (a:Int) b=a by omega,show max (a:Int) b=b by omega] at this
  ·right; rwa [show min (a:Int) b=b by omega,show max (a:Int) b=a by omega] at this
 ·intro h
  have key: ∀x y:Int,(x,y)∈endsL g.es→ ∃e,e∈g.es∧e.a=x∧e.b=y∧x≤y:=fun x y hxy=>by
   obtain ⟨e,he,hx⟩:=A36 hxy
   have:=h2 e he
   unfold okE at this
   cases hx
   exact ⟨e,he,rfl,rfl,by omega⟩
  rcases h with h | h
  ·obtain ⟨e,he,h4,h5,h6⟩:=key _ _ h
   exact ⟨e,he,by omega,by omega⟩
  ·obtain ⟨e,he,h4,h5,h6⟩:=key _ _ h
   exact ⟨e,he,by omega,by omega⟩
theorem A7V {g:G} {n:Nat} (hc:checkG g=0) (hn:g.n=n): ∀p,p∈endsL g.es→(0≤p.1∧p.1<n)∧(0≤p.2∧p.2<n):=fun p hp=>by
 have:=ends_range hc hp; omega
theorem B37 {g:G} {n v:Nat} (hc:checkG g=0) (hn:g.n=n) (hv:v<n) {u:Nat} (hu:u<n):GT (A7P g.es n v) u↔Conn (endsL g.es) v u:=by
 have hlen: ∀k,(A10 g.es n v k).length=n:=A4F g.es n v
 have hsucc: ∀k,A10 g.es n v (k+1)=A6H g.es n (A10 g.es n v k):=fun k=>A1a _ _ _
 have hz: ∀u,GT (A10 g.es n v 0) u↔u=v:=fun u=>by
  show GT ((List.replicate n false).set v true) u↔u=v
  rw [B79 (by simpa using hv)]
  constructor
  ·rintro (h | h)
   ·exact h
   ·exfalso
    have hl:=B8l h
    unfold GT at h
    rw [List.getD_eq_getElem?_getD,List.getElem?_eq_getElem hl,List.getElem_replicate] at h
    simp at h
  ·exact .inl
 constructor
 ·-- sound
  have hstep: ∀(R:List Bool) (a b:Nat),R.length=n→b<n→(∀u,GT R u→Conn (endsL g.es) v u)→ ∀u,GT (A38 g.es a R b) u→Conn (endsL g.es) v u:=fun R a b hl hb h u hu=>by
   rw [B1H (by omega)] at hu
   rcases hu with hu | ⟨rfl,ha,hab⟩
   ·exact h u hu
   ·exact .step (h a ha) ((B29 hc).1 hab)
  have hall: ∀k,∀u,GT (A10 g.es n v k) u→Conn (endsL g.es) v u:=fun k=>by
   induction k with
   | zero=>intro u hu; rw [(hz u).1 hu]; exact .refl
   | succ k ih=>
    rw [hsucc]
    have:=A3Q (f:=fun R a=>rRow g.es n a R) (P:=fun _ S=>S.length=n∧ ∀u,GT S u→Conn (endsL g.es) v u) (z:=A10 g.es n v k) ⟨hlen k,ih⟩ n (by
     rintro i S hi ⟨h1,h2⟩
     have:=A3Q (f:=A38 g.es i) (P:=fun _ S=>S.length=n∧ ∀u,GT S u→Conn (endsL g.es) v u) (z:=S) ⟨h1,h2⟩ n (by
      rintro j T hj ⟨h3,h4⟩
      exact ⟨by rw [A5J,h3],hstep T i j h3 hj h4⟩)
     exact this)
    exact this.2
  exact hall n u
 ·-- complete
  have hgrow: ∀k,A7U g.es n (A10 g.es n v k)∨k+1≤B1I (A10 g.es n v k):=fun k=>by
   induction k with
   | zero=>
    right
    have h1:GT (A10 g.es n v 0) v:=(hz v).2 rfl
    by_cases h0:B1I (A10 g.es n v 0)=0
    ·exfalso
     have key: ∀R:List Bool,B1I R=0→ ∀u,¬GT R u:=by
      intro R
      induction R with
      | nil=>intro _ u h; exact absurd (B8l h) (by simp)
      | cons b R ih=>
       intro h u hu
       simp only [B1I] at h
       have hb:b=false:=by cases b<;>simp at h ⊢
       subst hb
       cases u with
       | zero=>unfold GT at hu; simp at hu
       | succ u=>exact ih (by simpa using h) u (by unfold GT at*; simpa using hu)
     exact key _ h0 _ h1
    ·omega
   | succ k ih=>
    obtain ⟨⟨q1,q2⟩,q3⟩:=A8F (es:=g.es) (hlen k)
    rw [hsucc]
    by_cases hcl:A7U g.es n (A10 g.es n v k)
    ·left; rw [B36 (hlen k) hcl]; exact hcl
    ·right
     have hk:k+1≤B1I (A10 g.es n v k):=ih.resolve_left hcl
     obtain ⟨c1,c2⟩:=B03 (by rw [hlen k,q1]) q2
     by_cases e:B1I (A10 g.es n v k)=B1I (A6H g.es n (A10 g.es n v k))
     ·exfalso
      refine hcl fun a ha hR b hb hab=> ?_
      have:=q3 a ha hR b hb hab
      rwa [←c2 e] at this
     ·omega
  have hcl:A7U g.es n (A10 g.es n v n):=by
   rcases hgrow n with h | h
   ·exact h
   ·have:=B8m (A10 g.es n v n); rw [hlen n] at this; omega
  have hvT: ∀k,GT (A10 g.es n v k) v:=fun k=>by
   induction k with
   | zero=>exact (hz v).2 rfl
   | succ k ih=>rw [hsucc]; exact (A8F (es:=g.es) (hlen k)).1.up v ih
  intro hcn
  have key: ∀w,Conn (endsL g.es) v w→GT (A10 g.es n v n) w:=by
   intro w hw
   induction hw with
   | refl=>exact hvT n
   | step _ hh ih=>
    rename_i b c _
    have hb:b<n∧c<n:=by
     rcases hh with hh | hh<;>(have:=A7V hc hn _ hh; simp only at this; omega)
    exact hcl b hb.1 ih c hb.2 ((B29 hc).2 hh)
  exact key u hcn
theorem B8n {R S:List Bool} {n:Nat} (hS:S.length=n) (u:Nat) (hu:u<n):GT (orK R S n) u↔GT S u∨GT R u:=by
 have:=A3Q (f:=A7Q R) (P:=fun k T=>T.length=n∧ ∀u,u<n→(GT T u↔GT S u∨(u<k∧GT R u))) (z:=S) ⟨hS,fun u _=>by simp⟩ n (by
  rintro i T hi ⟨h1,h2⟩
  refine ⟨by rw [A8D,h1],fun u hu=> ?_⟩
  unfold A7Q
  by_cases e:i=u
  ·subst e
   unfold GT at h2 ⊢
   have h3:=h2 i hu
   rw [List.getD_eq_getElem?_getD,List.getElem?_set_self (by omega),Option.getD_some,Bool.or_eq_true,h3]
   constructor
   ·rintro ((h | h) | h)
    ·exact .inl h
    ·omega
    ·exact .inr ⟨by omega,h⟩
   ·rintro (h | ⟨_,h⟩)
    ·exact .inl (.inl h)
    ·exact .inr h
  ·have h3:=h2 u hu
   unfold GT at h3 ⊢
   rw [List.getD_eq_getElem?_getD,List.getElem?_set_ne e,←List.getD_eq_getElem?_getD,h3]
   constructor
   ·rintro (h | ⟨h,h'⟩)
    ·exact .inl h
    ·exact .inr ⟨by omega,h'⟩
   ·rintro (h | ⟨h,h'⟩)
    ·exact .inl h
    ·exact .inr ⟨by omega,h'⟩)
 have h3:=this.2 u hu
 unfold orK
 rw [h3]
 constructor
 ·rintro (h | ⟨_,h⟩)
  ·exact .inl h
  ·exact .inr h
 ·rintro (h | h)
  ·exact .inl h
  ·exact .inr ⟨hu,h⟩
theorem B5b {g:G} {n:Nat} (hc:checkG g=0) (hn:g.n=n): ∀v,v≤n→ ∀u,u<n→(GT (A5K g.es n v) u↔ ∃w,w<v∧Conn (endsL g.es) w u):=by
 intro v
 induction v with
 | zero=>
  intro _ u hu
  constructor
  ·intro h
   exfalso
   have hl:=B8l h
   unfold GT at h
   rw [List.getD_eq_getElem?_getD,List.getElem?_eq_getElem hl] at h
   simp [A5K] at h
  ·rintro ⟨w,hw,_⟩; omega
 | succ v ih=>
  intro hv u hu
  have ih:=ih (by omega)
  have hS1:A5K g.es n (v+1)=seenStep g.es n (A5K g.es n v) v:=A1a _ _ _
  rw [hS1]
  unfold seenStep
  by_cases h:(A5K g.es n v).getD v false=true
  ·rw [if_pos h,ih u hu]
   obtain ⟨w,hw,hcw⟩:=(ih v (by omega)).1 h
   constructor
   ·rintro ⟨x,hx,h2⟩; exact ⟨x,by omega,h2⟩
   ·rintro ⟨x,hx,h2⟩
    by_cases e:x=v
    ·subst e; exact ⟨w,hw,hcw.trans h2⟩
    ·exact ⟨x,by omega,h2⟩
  ·rw [if_neg h,B8n (B02 g.es n v) u hu,ih u hu,B37 hc hn (by omega) hu]
   constructor
   ·rintro (⟨x,hx,h2⟩ | h2)
    ·exact ⟨x,by omega,h2⟩
    ·exact ⟨v,by omega,h2⟩
   ·rintro ⟨x,hx,h2⟩
    by_cases e:x=v
    ·subst e; exact .inr h2
    ·exact .inl ⟨x,by omega,h2⟩
theorem A5n {g:G} {n:Nat} (hc:checkG g=0) (hn:g.n=n): ∀v,v≤n→(A2m g.es n v:Int)=rootsN (genS (endsL g.es)).1 v:=by
 have hn12:=(A02.1 hc).1
 have hr:B4Y (endsL g.es):=fun p hp=>by have:=A7V hc hn p hp; omega
 intro v
 induction v with
 | zero=>intro _; rfl
 | succ v ih=>
  intro hv
  have ih:=ih (by omega)
  have hsp:=B5b hc hn v (by omega) v (by omega)
  have hrt:=A39 hr (v:=v) (by omega)
  simp only [A2m,rootsN]
  unfold GT at hsp
  by_cases h:(A5K g.es n v).getD v false=true
  ·rw [if_pos h,if_neg (fun e=>hrt.1 e (hsp.1 h))]; omega
  ·rw [if_neg h,if_pos (hrt.2 fun e=>h (hsp.2 e))]; omega
theorem B6C {g:G} {n:Nat} (hc:checkG g=0) (hn:g.n=n):B8f (endsL g.es)=(endsL g.es).length-n+A2m g.es n n:=by
 have hn12:=(A02.1 hc).1
 have hr:B4Y (endsL g.es):=fun p hp=>by have:=A7V hc hn p hp; omega
 have h:=(uf _ hr).cnt
 have hp:=A5n hc hn n (Nat.le_refl _)
 have hhi: ∀k,n+k≤12→rootsN (genS (endsL g.es)).1 (n+k)=rootsN (genS (endsL g.es)).1 n+k:=fun k=>by
  induction k with
  | zero=>intro _; simp
  | succ k ih=>
   intro hk
   have e:(genS (endsL g.es)).1[n+k]? =some (n+k):=(A39 hr (by omega)).2 fun ⟨u,hu,hcu⟩=>by
    have:=hcu.symm.bound (A7V hc hn) (by omega); omega
   show rootsN _ (n+k+1)=_
   simp only [rootsN,ih (by omega),if_pos e]; omega
 have h12:=hhi (12-n) (by omega)
 rw [show n+(12-n)=12 by omega] at h12
 unfold B8f
 omega
def A0N (F:List Nat) (v:Nat):List Nat:=(List.range v).filter fun u=>decide (rootF F 12 u=u)
def A6V (F:List Nat) (v r:Nat):List Int:=((List.range v).filter fun u=>decide (rootF F 12 u=r)).map fun u:Nat=>(u:Int)
def A1k (F:List Nat) (v:Nat):List (List Int):=(A0N F v).map (A6V F v)
theorem A41 (F:List Nat) (v:Nat):(A0N F v).Nodup:=List.Nodup.sublist List.filter_sublist List.nodup_range
theorem A4H {F:List Nat} {v u:Nat}:u∈A0N F v↔u<v∧rootF F 12 u=u:=by simp [A0N]
theorem A3R (F:List Nat) (v:Nat):A0N F (v+1)=if rootF F 12 v=v then A0N F v++[v] else A0N F v:=by
 unfold A0N
 rw [List.range_succ,List.filter_append]
 by_cases h:rootF F 12 v=v<;>simp [h]
theorem B38 (F:List Nat) (v:Nat):(A0N F v).length≤v:=by
 unfold A0N
 exact Nat.le_trans (List.length_filter_le _ _) (by simp)
theorem A4I (F:List Nat) (v r:Nat):A6V F (v+1) r=if rootF F 12 v=r then A6V F v r++[(v:Int)] else A6V F v r:=by
 unfold A6V
 rw [List.range_succ,List.filter_append]
 by_cases h:rootF F 12 v=r<;>simp [h]
theorem B5c {F:List Nat} (hF:FOk F) {v:Nat} (hv:v<12) (h:rootF F 12 v=v):A1k F (v+1)=A1k F v++[[(v:Int)]]:=by
 unfold A1k
 rw [A3R,if_pos h,List.map_append]
 congr 1
 ·refine List.map_congr_left fun r hr=> ?_
  have:=(A4H.1 hr).1
  rw [A4I,if_neg (by omega)]
 ·simp only [List.map_cons,List.map_nil]
  rw [A4I,if_pos h]
  have:A6V F v v=[]:=by
   unfold A6V
   rw [List.map_eq_nil_iff,List.filter_eq_nil_iff]
   intro u hu
   have hu':=List.mem_range.1 hu
   have:=A2x hF (n:=12) (v:=u) (by omega)
   simp only [decide_eq_true_eq]; omega
  rw [this]; rfl
theorem B5d {F:List Nat} {v k:Nat} (h:rootF F 12 v≠v) {r:Nat} (hk:(A0N F v)[k]? =some r) (hr:rootF F 12 v=r):(A0N F (v+1))=A0N F v∧(A1k F v)[k]? =some (A6V F v r)∧A1k F (v+1)=(A1k F v).set k (A6V F v r++[(v:Int)]):=by
 have e1:A0N F (v+1)=A0N F v:=by rw [A3R,if_neg h]
 refine ⟨e1,by simp [A1k,hk],?_⟩
 unfold A1k
 rw [e1]
 apply List.ext_getElem?
 intro i
 have hkl:=(List.getElem?_eq_some_iff.1 hk).1
 by_cases e:k=i
 ·subst e
  rw [List.getElem?_set_self (by simpa using hkl),List.getElem?_map,hk]
  simp only [Option.map_some]
  rw [A4I,if_pos hr]
 ·rw [List.getElem?_set_ne e,List.getElem?_map,List.getElem?_map]
  cases hi:(A0N F v)[i]? with
  | none=>rfl
  | some s=>
   simp only [Option.map_some]
   rw [A4I,if_neg]
   intro hs
   obtain ⟨hil,e2⟩:=List.getElem?_eq_some_iff.1 hi
   obtain ⟨_,e3⟩:=List.getElem?_eq_some_iff.1 hk
   have hnd:=A41 F v
   rw [List.Nodup,List.pairwise_iff_getElem] at hnd
   have e4:(A0N F v)[k]=(A0N F v)[i]:=by rw [e2,e3,←hr,hs]
   rcases Nat.lt_or_gt_of_ne e with h | h
   ·exact hnd k i hkl hil h e4
   ·exact hnd i k hil hkl h e4.symm
def mR:Nat→List Nat→List (MKey×MV)
 | _,[]=>[]
 | b,r::l=>(.int r,.c (.int .i64 (b:Int)))::mR (b+1) l
theorem B5e: ∀(b:Nat) (l:List Nat) (r:Nat),r∉l→mIdx (mR b l) (.int r)=none
 | b,[],r,_=>rfl
 | b,x::l,r,h=>by
  have h1: ¬x=r:=fun e=>h (by simp [e])
  have h2:=B5e (b+1) l r (fun hm=>h (by simp [hm]))
  unfold mIdx at h2 ⊢
  simp only [mR,List.findIdx?_cons,h2,Option.map_none]
  rw [if_neg]
  intro e
  have:(MKey.int (x:Int))= .int r:=by simpa using e
  injection this with e
  exact h1 (by omega)
theorem B8Z: ∀(b:Nat) (l:List Nat) (k r:Nat),l.Nodup→l[k]? =some r→mIdx (mR b l) (.int r)=some k∧(mR b l)[k]? =some (.int r,.c (.int .i64 ((b+k:Nat):Int)))
 | b,[],k,r,_,h=>by simp at h
 | b,x::l,0,r,_,h=>by
  simp at h; subst h
  simp [mIdx,mR,List.findIdx?_cons]
 | b,x::l,k+1,r,hn,h=>by
  rw [List.nodup_cons] at hn
  have h':l[k]? =some r:=by simpa using h
  obtain ⟨q1,q2⟩:=B8Z (b+1) l k r hn.2 h'
  have h1: ¬x=r:=fun e=>hn.1 (by rw [e]; exact List.mem_of_getElem? h')
  constructor
  ·unfold mIdx at q1 ⊢
   simp only [mR,List.findIdx?_cons,q1,Option.map_some]
   rw [if_neg]
   intro e
   have:(MKey.int (x:Int))= .int r:=by simpa using e
   injection this with e
   exact h1 (by omega)
  ·simp only [mR,List.getElem?_cons_succ,q2]
   rw [show b+1+k=b+(k+1) by omega]
theorem B7A {l:List Nat} {k r:Nat} (hn:l.Nodup) (h:l[k]? =some r) (z:MV):A6f (mR 0 l) (.int r) z= .c (.int .i64 (k:Int)):=by
 obtain ⟨q1,q2⟩:=B8Z 0 l k r hn h
 unfold A6f
 simp [q1,q2]
theorem B5f: ∀(b:Nat) (l:List Nat) (r:Nat),mR b (l++[r])=mR b l++[(.int r,.c (.int .i64 ((b+l.length:Nat):Int)))]
 | b,[],r=>by simp [mR]
 | b,x::l,r=>by
  have:=B5f (b+1) l r
  simp only [List.cons_append,mR,this,List.length_cons]
  rw [show b+1+l.length=b+(l.length+1) by omega]
theorem B9a {l:List Nat} {r:Nat} (h:r∉l):B4t (mR 0 l) (.int r) (.c (.int .i64 (l.length:Int)))=mR 0 (l++[r]):=by
 unfold B4t
 rw [B5e 0 l r h,B5f]
 simp
theorem A5L: ∀{b:Nat} {l:List Nat},∀e,e∈mR b l→KShape.ok .int e.1=true
 | b,[],e,h=>by simp [mR] at h
 | b,x::l,e,h=>by
  rcases List.mem_cons.1 h with rfl | h
  ·rfl
  ·exact A5L e h
end Go.Proofs.Ytdhfgihnoimoaaa
