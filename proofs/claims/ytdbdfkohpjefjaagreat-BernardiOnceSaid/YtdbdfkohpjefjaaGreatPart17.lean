/- A part of the proof. -/
import Derived.Test.YtdbdfkohpjefjaaGreatPart14
import Derived.Test.YtdbdfkohpjefjaaGreatPart07
import Derived.Test.YtdbdfkohpjefjaaGreatPart16
set_option linter.all false
set_option maxHeartbeats 4000000
set_option maxRecDepth 100000
namespace Go.Proofs.YtdbdfkohpjefjaaGreat
open Go.Sp
theorem A2H {α:Type} {P:List α->Prop} (h0:P []) (h1: ∀l x,P l->P (l++[x])) (l:List α):P l:=by
 have: ∀r:List α,P r.reverse:=fun r=>by
  induction r with
  | nil=>simpa using h0
  | cons x xs ih=>rw [List.reverse_cons]; exact h1 _ _ ih
 simpa using this l.reverse
inductive Conn (l:List (Int×Int)) (a:Nat):Nat->Prop
 | refl:Conn l a a
 | step {b c:Nat}:Conn l a b->(((b:Int),(c:Int))∈l∨((c:Int),(b:Int))∈l)->Conn l a c
theorem Conn.trans {l:List (Int×Int)} {a b c:Nat} (h1:Conn l a b) (h2:Conn l b c):Conn l a c:=by
 induction h2 with
 | refl=>exact h1
 | step _ h ih=>exact .step ih h
theorem Conn.one {l:List (Int×Int)} {b c:Nat} (h:((b:Int),(c:Int))∈l∨((c:Int),(b:Int))∈l):Conn l b c:= .step .refl h
theorem Conn.symm {l:List (Int×Int)} {a b:Nat} (h:Conn l a b):Conn l b a:=by
 induction h with
 | refl=>exact .refl
 | step _ h ih=>exact (Conn.one h.symm).trans ih
theorem Conn.mono {l m:List (Int×Int)} (hs: ∀p,p∈l->p∈m) {a b:Nat} (h:Conn l a b):Conn m a b:=by
 induction h with
 | refl=>exact .refl
 | step _ h ih=>exact .step ih (h.imp (hs _) (hs _))
theorem Conn.bound {l:List (Int×Int)} {n:Nat} (hr: ∀p,p∈l->(0≤p.1∧p.1<n)∧(0≤p.2∧p.2<n)) {a b:Nat} (h:Conn l a b) (ha:n≤a):b=a:=by
 induction h with
 | refl=>rfl
 | step _ h ih=>
  rcases h with h | h
  ·have:=hr _ h; simp only at this; omega
  ·have:=hr _ h; simp only at this; omega
theorem A7Q {F:List Nat} (h:FOk F): ∀{u:Nat},u<12->F[rootF F 12 u]? =some (rootF F 12 u):=by
 intro u
 induction u using Nat.strongRecOn with
 | _ u ih=>
  intro hu;have hul:u<F.length:=by rw [h.len]; exact hu
  have hle:=h.le u hul;rw [A2M h hul];by_cases e:F[u]=u
  ·rw [if_pos e,Qq hul,e]
  ·rw [if_neg e]; exact ih _ (by omega) (by omega)
theorem A4P {F:List Nat} (h:FOk F) {u:Nat} (hu:u<12) (e:F[u]? =some u):rootF F 12 u=u:=by
 have hul:u<F.length:=by rw [h.len]; exact hu
 rw [A2M h hul,if_pos (by rw [Qq hul] at e; exact Jw e)]
theorem root_lt {F:List Nat} (h:FOk F) {u:Nat} (hu:u<12):rootF F 12 u<12:=by
 have:=A2w h (n:=12) hu; omega
theorem B0U {F:List Nat} (h:FOk F) {u:Nat} (hu:u<12):rootF F 12 u=u↔F[u]? =some u:=
 ⟨fun e=>by have:=A7Q h hu; rwa [e] at this,A4P h hu⟩
theorem B6q {F:List Nat} (h:FOk F) {M m:Nat} (hM:M<12) (hm:m≤M) (eM:F[M]? =some M) (em:F[m]? =some m): ∀{u:Nat},u<12->rootF (F.set M m) 12 u=if rootF F 12 u=M then m else rootF F 12 u:=by
 have h':FOk (F.set M m):=⟨by simp [h.len],fun i hi=>by
  rw [Qx7]; split
  ·omega
  ·exact h.le i (by simpa using hi)⟩
 intro u
 induction u using Nat.strongRecOn with
 | _ u ih=>
  intro hu;have hul:u<F.length:=by rw [h.len]; exact hu
  have hul':u<(F.set M m).length:=by simpa using hul
  have hle:=h.le u hul;rw [A2M h' hul',Qx7];by_cases e:M=u
  ·subst e;rw [if_pos rfl,A4P h hu eM,if_pos rfl];by_cases e2:m=M
   ·rw [if_pos e2]; exact e2.symm
   ·rw [if_neg e2,ih m (by omega) (by omega),A4P h (by omega) em,if_neg e2]
  ·rw [if_neg e,A2M h hul];by_cases e2:F[u]=u
   ·rw [if_pos e2,if_pos e2,if_neg (fun x=>e x.symm)]
   ·rw [if_neg e2,if_neg e2]; exact ih _ (by omega) (by omega)
def rootsN (F:List Nat):Nat->Int
 | 0=>0
 | k+1=>rootsN F k+(if F[k]? =some k then 1 else 0)
theorem B6r {F:List Nat} {M m:Nat} (hM:M<F.length) (hne:m≠M) (eM:F[M]? =some M) (k:Nat):rootsN (F.set M m) k=rootsN F k-(if M<k then 1 else 0):=by
 induction k with
 | zero=>simp [rootsN]
 | succ k ih=>
  simp only [rootsN,ih];by_cases e:M=k
  ·subst e;rw [QW hM,if_neg (show ¬(some m=some M) from fun h=>hne (Jw h)),if_pos eM,if_neg (show ¬M<M by omega),if_pos (show M<M+1 by omega)]; omega
  ·rw [QX e];by_cases e2:M<k
   ·rw [if_pos e2,if_pos (show M<k+1 by omega)]; omega
   ·rw [if_neg e2,if_neg (show ¬M<k+1 by omega)]; omega
structure UF (l:List (Int×Int)):Prop where
 ok:FOk (genS l).1
 sound: ∀u,u<12->Conn l u (rootF (genS l).1 12 u)
 all: ∀p,p∈l->rootF (genS l).1 12 p.1.toNat=rootF (genS l).1 12 p.2.toNat
 cnt:(genS l).2+12=l.length+rootsN (genS l).1 12
def B89 (l:List (Int×Int)):Prop:= ∀p,p∈l->(0≤p.1∧p.1<12)∧(0≤p.2∧p.2<12)
theorem uf (l:List (Int×Int)) (hr:B89 l):UF l:=by
 revert hr;refine A2H (P:=fun l=>B89 l->UF l) ?_ ?_ l
 ·intro _;have h0:FOk (List.range 12):=⟨by simp,fun i hi=>by simp⟩;refine ⟨h0,fun u hu=> ?_,(fun p hp=>absurd hp (by simp)),?_⟩
  ·have e:rootF (genS []).1 12 u=u:=A4P h0 hu (by rw [Yv hu]);rw [e]; exact .refl
  ·decide
 ·intro l p ih hr;have hl:=ih fun q hq=>hr q (by simp [hq]);have hp:=hr p (by simp);obtain ⟨ok,sound,all,cnt⟩:=hl;have hsn:=A8G l p;have ok':=B0a (s:=genS l) ok hp.1 hp.2;rw [<-hsn] at ok';generalize hF:(genS l).1=F at*;generalize hc:(genS l).2=c at*;have h1:p.1.toNat<12:=by omega
  have h2:p.2.toNat<12:=by omega
  have e1:=A7Q ok h1;have e2:=A7Q ok h2;have l1:=root_lt ok h1;have l2:=root_lt ok h2;have hgF:(genS (l++[p])).1=F.set (max (rootF F 12 p.1.toNat) (rootF F 12 p.2.toNat)) (min (rootF F 12 p.1.toNat) (rootF F 12 p.2.toNat)):=by rw [hsn]; simp only [A1H,hF]
  have hgc:(genS (l++[p])).2=if rootF F 12 p.1.toNat=rootF F 12 p.2.toNat then c+1 else c:=by rw [hsn]; simp only [A1H,hF,hc]
  have c1:=sound _ h1;have c2:=sound _ h2;have hsub: ∀q,q∈l->q∈l++[p]:=fun q hq=>by simp [hq]
  have hpp:Conn (l++[p]) p.1.toNat p.2.toNat:=Conn.one (.inl (by
   have:((p.1.toNat:Nat):Int)=p.1:=by omega
   have h3:((p.2.toNat:Nat):Int)=p.2:=by omega
   rw [this,h3]; simp))
  have hab:Conn (l++[p]) (rootF F 12 p.1.toNat) (rootF F 12 p.2.toNat):=((c1.mono hsub).symm.trans hpp).trans (c2.mono hsub);generalize ha:rootF F 12 p.1.toNat=a at*;generalize hb:rootF F 12 p.2.toNat=b at*;have eM:F[max a b]? =some (max a b):=by rcases Nat.le_total a b with h | h<;>simp [Nat.max_eq_right,Nat.max_eq_left,h,e1,e2]
  have em:F[min a b]? =some (min a b):=by rcases Nat.le_total a b with h | h<;>simp [Nat.min_eq_right,Qq1,h,e1,e2]
  have hun:=fun {u:Nat} (hu:u<12)=>B6q ok (M:=max a b) (m:=min a b) (by omega) (by omega) eM em hu;refine ⟨ok',fun u hu=> ?_,fun q hq=> ?_,?_⟩
  ·rw [hgF,hun hu];have hs:=(sound u hu).mono hsub;by_cases e:rootF F 12 u=max a b
   ·rw [if_pos e];refine hs.trans ?_;rw [e];rcases Nat.le_total a b with h | h
    ·rw [Nat.max_eq_right h,Qq1 h]; exact hab.symm
    ·rw [Nat.max_eq_left h,Nat.min_eq_right h]; exact hab
   ·rw [if_neg e]; exact hs
  ·rw [hgF];rcases XJ.1 hq with hq | hq
   ·have hq2:=hr q (by simp [hq]);rw [hun (by omega),hun (by omega),all q hq]
   ·obtain rfl:=Zz.1 hq;rw [hun h1,hun h2,ha,hb];by_cases x:a=max a b<;>by_cases y:b=max a b
    ·rw [if_pos x,if_pos y]
    ·rw [if_pos x,if_neg y]; omega
    ·rw [if_neg x,if_pos y]; omega
    ·omega
  ·rw [hgF,hgc,Xv,List.length_singleton];by_cases e:a=b
   ·subst e;rw [if_pos rfl,Nat.max_self,Nat.min_self];have hal:a<F.length:=by rw [ok.len]; exact l1
    have:F.set a a=F:=by
     apply Zx;intro i;by_cases hi:a=i
     ·subst hi; rw [QW hal,e1]
     ·rw [QX hi]
    rw [this]; omega
   ·rw [if_neg e,B6r (by rw [ok.len]; omega) (by omega) eM,if_pos (by omega)]; omega
theorem B8A {l:List (Int×Int)} (hr:B89 l) {u w:Nat} (hu:u<12) (hw:w<12):Conn l u w↔rootF (genS l).1 12 u=rootF (genS l).1 12 w:=by
 have h:=uf l hr;constructor
 ·intro hc;have key: ∀w,Conn l u w->w<12->rootF (genS l).1 12 u=rootF (genS l).1 12 w:=by
   intro w hc
   induction hc with
   | refl=>intro _; rfl
   | step _ hh ih=>
    intro hw;rename_i b c _;rcases hh with hh | hh
    ·have:=hr _ hh;rw [ih (by omega)]; simpa using h.all _ hh
    ·have:=hr _ hh;rw [ih (by omega)]; simpa using (h.all _ hh).symm
  exact key w hc hw
 ·intro e;have h1:=h.sound u hu;have h2:=h.sound w hw;rw [e] at h1;exact h1.trans h2.symm
theorem A3O {l:List (Int×Int)} (hr:B89 l) {v:Nat} (hv:v<12):(genS l).1[v]? =some v↔ ¬ ∃u,u<v∧Conn l u v:=by
 have h:=uf l hr;rw [<-B0U h.ok hv];constructor
 ·rintro e ⟨u,hu,hc⟩;have:=(B8A hr (by omega) hv).1 hc;have:=A2w h.ok (n:=12) (v:=u) (by omega);omega
 ·intro hn;have hle:=A2w h.ok (n:=12) hv;by_cases e:rootF (genS l).1 12 v=v
  ·exact e
  ·exact absurd ⟨_,by omega,(h.sound v hv).symm⟩ hn
def GT (R:List Bool) (u:Nat):Prop:=R.getD u false=true
theorem C33 {R:List Bool} {u:Nat} (h:GT R u):u<R.length:=by
 unfold GT at h;rw [Qz] at h;by_cases hu:u<R.length
 ·exact hu
 ·rw [Xq (by omega)] at h; simp at h
theorem C2D {R:List Bool} {b u:Nat} (hb:b<R.length):GT (R.set b true) u↔u=b∨GT R u:=by
 unfold GT;rw [Qz,Qz];by_cases e:b=u
 ·subst e; rw [QW hb]; simp
 ·rw [QX e];constructor
  ·intro h; exact .inr h
  ·rintro (h | h)
   ·exact absurd h.symm e
   ·exact h
theorem B3B {es:List E} {a b u:Nat} {R:List Bool} (hb:b<R.length):GT (A3N es a R b) u↔GT R u∨(u=b∧GT R a∧B7i es a b=true):=by
 unfold A3N;by_cases h:(R.getD a false&&B7i es a b)=true
 ·rw [if_pos h,C2D hb];simp only [XY] at h;constructor
  ·rintro (rfl | h2)
   ·exact .inr ⟨rfl,h.1,h.2⟩
   ·exact .inl h2
  ·rintro (h2 | ⟨rfl,_⟩)
   ·exact .inr h2
   ·exact .inl rfl
 ·rw [if_neg h];simp only [XY,not_and] at h;constructor
  ·exact .inl
  ·rintro (h2 | ⟨_,h3,h4⟩)
   ·exact h2
   ·exact absurd h4 (h h3)
theorem A4e {f:List Bool->Nat->List Bool} (P:Nat->List Bool->Prop) {z:List Bool} (h0:P 0 z) (k:Nat) (h1: ∀i R,i<k->P i R->P (i+1) (f R i)):P k ((List.range k).foldl f z):=by
 induction k with
 | zero=>exact h0
 | succ k ih=>rw [A0Y]; exact h1 _ _ (by omega) (ih fun i R hi=>h1 i R (by omega))
structure Rd (es:List E) (n:Nat) (R S:List Bool):Prop where
 len:S.length=n
 up: ∀u,GT R u->GT S u
theorem C1u {es:List E} {n a:Nat} {R:List Bool} (hl:R.length=n):Rd es n R (rRow es n a R)∧(GT R a-> ∀b,b<n->B7i es a b=true->GT (rRow es n a R) b):=by
 have:=A4e (f:=A3N es a) (P:=fun k S=>Rd es n R S∧(GT R a-> ∀b,b<k->B7i es a b=true->GT S b)) (z:=R) ⟨⟨hl,fun u h=>h⟩,fun _ b hb=>by omega⟩ n (by
  rintro i S hi ⟨⟨h1,h2⟩,h3⟩;refine ⟨⟨by rw [A6x,h1],fun u hu=>(B3B (by omega)).2 (.inl (h2 u hu))⟩,fun ha b hb hab=> ?_⟩;rw [B3B (by omega)];by_cases e:b=i
  ·subst e; exact .inr ⟨rfl,h2 a ha,hab⟩
  ·exact .inl (h3 ha b (by omega) hab))
 exact this
theorem B0h {es:List E} {n:Nat} {R:List Bool} (hl:R.length=n):Rd es n R (A70 es n R)∧(∀a,a<n->GT R a-> ∀b,b<n->B7i es a b=true->GT (A70 es n R) b):=by
 have:=A4e (f:=fun R a=>rRow es n a R) (P:=fun k S=>Rd es n R S∧(∀a,a<k->GT R a-> ∀b,b<n->B7i es a b=true->GT S b)) (z:=R) ⟨⟨hl,fun u h=>h⟩,fun a ha=>by omega⟩ n (by
  rintro i S hi ⟨⟨h1,h2⟩,h3⟩;obtain ⟨⟨q1,q2⟩,q3⟩:=C1u (es:=es) (a:=i) h1;refine ⟨⟨q1,fun u hu=>q2 u (h2 u hu)⟩,fun a ha hR b hb hab=> ?_⟩;by_cases e:a=i
  ·subst e; exact q3 (h2 a hR) b hb hab
  ·exact q2 b (h3 a (by omega) hR b hb hab))
 exact this
def A8W (es:List E) (n:Nat) (R:List Bool):Prop:= ∀a,a<n->GT R a-> ∀b,b<n->B7i es a b=true->GT R b
theorem B8B {es:List E} {n a b:Nat} {R:List Bool} (hl:R.length=n) (hb:b<n) (ha:a<n) (h:A8W es n R):A3N es a R b=R:=by
 unfold A3N;by_cases hx:(R.getD a false&&B7i es a b)=true
 ·rw [if_pos hx];simp only [XY] at hx;have:=h a ha hx.1 b hb hx.2;apply Zx;intro i;by_cases e:b=i
  ·subst e;rw [QW (by omega),Qq (by omega)];unfold GT at this;rw [Qz,Qq (by omega)] at this;simpa using this.symm
  ·rw [QX e]
 ·rw [if_neg hx]
theorem B6s {es:List E} {n:Nat} {R:List Bool} (hl:R.length=n) (h:A8W es n R):A70 es n R=R:=by
 have:=A4e (f:=fun R a=>rRow es n a R) (P:=fun k S=>S=R) (z:=R) rfl n (by
  rintro i S hi rfl
  have:=A4e (f:=A3N es i) (P:=fun k T=>T=S) (z:=S) rfl n (by
   rintro j T hj rfl
   exact B8B hl hj hi h)
  exact this)
 exact this
def B3C:List Bool->Nat
 | []=>0
 | b::R=>(if b then 1 else 0)+B3C R
theorem C34 (R:List Bool):B3C R≤R.length:=by
 induction R with
 | nil=>exact QQ _
 | cons b R ih=>simp only [B3C,List.length_cons]; split<;>omega
theorem B2g: ∀{R S:List Bool},R.length=S.length->(∀u,GT R u->GT S u)->B3C R≤B3C S∧(B3C R=B3C S->R=S)
 | [],[],_,_=>⟨QQ _,fun _=>rfl⟩
 | [],_::_,h,_=>by simp at h
 | _::_,[],h,_=>by simp at h
 | x::R,y::S,h,hu=>by
  have h0:=hu 0;have ih:=B2g (R:=R) (S:=S) (by simpa using h) (fun u hx=>by have:=hu (u+1); unfold GT at*; simpa using this (by simpa using hx));unfold GT at h0;simp only [B3C];cases x<;>cases y
  ·simp; exact ⟨ih.1,ih.2⟩
  ·simp; omega
  ·simp at h0
  ·simp;refine ⟨ih.1,fun h=>ih.2 (by omega)⟩
theorem B4Q {g:G} (hc:checkG g=0) {a b:Nat}:B7i g.es a b=true↔(((a:Int),(b:Int))∈endsL g.es∨((b:Int),(a:Int))∈endsL g.es):=by
 obtain ⟨h1,h2,h3⟩:=A0h.1 hc;unfold B7i;rw [decide_eq_true_eq,C1q (fun e he=>by have:=h2 e he; unfold okE at this; omega)];have hmem: ∀e,e∈g.es->(e.a,e.b)∈endsL g.es:=fun e he=>by
  have:=h2 e he;unfold okE at this;exact Jz.2 ⟨e,he,Wq.2 ⟨by omega,rfl⟩⟩
 constructor
 ·rintro ⟨e,he,e1,e2⟩;have:=hmem e he;rw [e1,e2] at this;rcases Nat.le_total a b with h | h
  ·left; rwa [show min (a:Int) b=a by omega,show max (a:Int) b=b by omega] at this
  ·right; rwa [show min (a:Int) b=b by omega,show max (a:Int) b=a by omega] at this
 ·intro h;have key: ∀x y:Int,(x,y)∈endsL g.es-> ∃e,e∈g.es∧e.a=x∧e.b=y∧x≤y:=fun x y hxy=>by
   obtain ⟨e,he,hx⟩:=A3L hxy;have:=h2 e he;unfold okE at this;cases hx;exact ⟨e,he,rfl,rfl,by omega⟩
  rcases h with h | h
  ·obtain ⟨e,he,h4,h5,h6⟩:=key _ _ h;exact ⟨e,he,by omega,by omega⟩
  ·obtain ⟨e,he,h4,h5,h6⟩:=key _ _ h;exact ⟨e,he,by omega,by omega⟩
theorem A2f {g:G} {n:Nat} (hc:checkG g=0) (hn:g.n=n): ∀p,p∈endsL g.es->(0≤p.1∧p.1<n)∧(0≤p.2∧p.2<n):=fun p hp=>by
 have:=ends_range hc hp; omega
theorem B6t {g:G} {n v:Nat} (hc:checkG g=0) (hn:g.n=n) (hv:v<n) {u:Nat} (hu:u<n):GT (A8L g.es n v) u↔Conn (endsL g.es) v u:=by
 have hlen: ∀k,(A1w g.es n v k).length=n:=A5o g.es n v;have hsucc: ∀k,A1w g.es n v (k+1)=A70 g.es n (A1w g.es n v k):=fun k=>A0Y _ _ _;have hz: ∀u,GT (A1w g.es n v 0) u↔u=v:=fun u=>by
  show GT ((List.replicate n false).set v true) u↔u=v;rw [C2D (by simpa using hv)];constructor
  ·rintro (h | h)
   ·exact h
   ·exfalso;have hl:=C33 h;unfold GT at h;rw [Qz,Qq hl,List.getElem_replicate] at h;simp at h
  ·exact .inl
 constructor
 ·-- sound
  have hstep: ∀(R:List Bool) (a b:Nat),R.length=n->b<n->(∀u,GT R u->Conn (endsL g.es) v u)-> ∀u,GT (A3N g.es a R b) u->Conn (endsL g.es) v u:=fun R a b hl hb h u hu=>by
   rw [B3B (by omega)] at hu;rcases hu with hu | ⟨rfl,ha,hab⟩
   ·exact h u hu
   ·exact .step (h a ha) ((B4Q hc).1 hab)
  have hall: ∀k,∀u,GT (A1w g.es n v k) u->Conn (endsL g.es) v u:=fun k=>by
   induction k with
   | zero=>intro u hu; rw [(hz u).1 hu]; exact .refl
   | succ k ih=>
    rw [hsucc]
    have:=A4e (f:=fun R a=>rRow g.es n a R) (P:=fun _ S=>S.length=n∧ ∀u,GT S u->Conn (endsL g.es) v u) (z:=A1w g.es n v k) ⟨hlen k,ih⟩ n (by
     rintro i S hi ⟨h1,h2⟩
     have:=A4e (f:=A3N g.es i) (P:=fun _ S=>S.length=n∧ ∀u,GT S u->Conn (endsL g.es) v u) (z:=S) ⟨h1,h2⟩ n (by
      rintro j T hj ⟨h3,h4⟩
      exact ⟨by rw [A6x,h3],hstep T i j h3 hj h4⟩)
     exact this)
    exact this.2
  exact hall n u
 ·-- complete
  have hgrow: ∀k,A8W g.es n (A1w g.es n v k)∨k+1≤B3C (A1w g.es n v k):=fun k=>by
   induction k with
   | zero=>
    right;have h1:GT (A1w g.es n v 0) v:=(hz v).2 rfl;by_cases h0:B3C (A1w g.es n v 0)=0
    ·exfalso;have key: ∀R:List Bool,B3C R=0-> ∀u,¬GT R u:=by
      intro R
      induction R with
      | nil=>intro _ u h; exact absurd (C33 h) (by simp)
      | cons b R ih=>
       intro h u hu;simp only [B3C] at h;have hb:b=false:=by cases b<;>simp at h ⊢
       subst hb;cases u with
       | zero=>unfold GT at hu; simp at hu
       | succ u=>exact ih (by simpa using h) u (by unfold GT at*; simpa using hu)
     exact key _ h0 _ h1
    ·omega
   | succ k ih=>
    obtain ⟨⟨q1,q2⟩,q3⟩:=B0h (es:=g.es) (hlen k);rw [hsucc];by_cases hcl:A8W g.es n (A1w g.es n v k)
    ·left; rw [B6s (hlen k) hcl]; exact hcl
    ·right;have hk:k+1≤B3C (A1w g.es n v k):=ih.resolve_left hcl;obtain ⟨c1,c2⟩:=B2g (by rw [hlen k,q1]) q2;by_cases e:B3C (A1w g.es n v k)=B3C (A70 g.es n (A1w g.es n v k))
     ·exfalso;refine hcl fun a ha hR b hb hab=> ?_;have:=q3 a ha hR b hb hab;rwa [<-c2 e] at this
     ·omega
  have hcl:A8W g.es n (A1w g.es n v n):=by
   rcases hgrow n with h | h
   ·exact h
   ·have:=C34 (A1w g.es n v n); rw [hlen n] at this; omega
  have hvT: ∀k,GT (A1w g.es n v k) v:=fun k=>by
   induction k with
   | zero=>exact (hz v).2 rfl
   | succ k ih=>rw [hsucc]; exact (B0h (es:=g.es) (hlen k)).1.up v ih
  intro hcn;have key: ∀w,Conn (endsL g.es) v w->GT (A1w g.es n v n) w:=by
   intro w hw
   induction hw with
   | refl=>exact hvT n
   | step _ hh ih=>
    rename_i b c _;have hb:b<n∧c<n:=by
     rcases hh with hh | hh<;>(have:=A2f hc hn _ hh; simp only at this; omega)
    exact hcl b hb.1 ih c hb.2 ((B4Q hc).2 hh)
  exact key u hcn
theorem C35 {R S:List Bool} {n:Nat} (hS:S.length=n) (u:Nat) (hu:u<n):GT (orK R S n) u↔GT S u∨GT R u:=by
 have:=A4e (f:=A8M R) (P:=fun k T=>T.length=n∧ ∀u,u<n->(GT T u↔GT S u∨(u<k∧GT R u))) (z:=S) ⟨hS,fun u _=>by simp⟩ n (by
  rintro i T hi ⟨h1,h2⟩;refine ⟨by rw [B0d,h1],fun u hu=> ?_⟩;unfold A8M;by_cases e:i=u
  ·subst e;unfold GT at h2 ⊢;have h3:=h2 i hu;rw [Qz,QW (by omega),Option.getD_some,YV,h3];constructor
   ·rintro ((h | h) | h)
    ·exact .inl h
    ·omega
    ·exact .inr ⟨by omega,h⟩
   ·rintro (h | ⟨_,h⟩)
    ·exact .inl (.inl h)
    ·exact .inr h
  ·have h3:=h2 u hu;unfold GT at h3 ⊢;rw [Qz,QX e,<-Qz,h3];constructor
   ·rintro (h | ⟨h,h'⟩)
    ·exact .inl h
    ·exact .inr ⟨by omega,h'⟩
   ·rintro (h | ⟨h,h'⟩)
    ·exact .inl h
    ·exact .inr ⟨by omega,h'⟩)
 have h3:=this.2 u hu;unfold orK;rw [h3];constructor
 ·rintro (h | ⟨_,h⟩)
  ·exact .inl h
  ·exact .inr h
 ·rintro (h | h)
  ·exact .inl h
  ·exact .inr ⟨hu,h⟩
theorem B8C {g:G} {n:Nat} (hc:checkG g=0) (hn:g.n=n): ∀v,v≤n-> ∀u,u<n->(GT (A6y g.es n v) u↔ ∃w,w<v∧Conn (endsL g.es) w u):=by
 intro v
 induction v with
 | zero=>
  intro _ u hu;constructor
  ·intro h;exfalso;have hl:=C33 h;unfold GT at h;rw [Qz,Qq hl] at h;simp [A6y] at h
  ·rintro ⟨w,hw,_⟩; omega
 | succ v ih=>
  intro hv u hu;have ih:=ih (by omega);have hS1:A6y g.es n (v+1)=seenStep g.es n (A6y g.es n v) v:=A0Y _ _ _;rw [hS1];unfold seenStep;by_cases h:(A6y g.es n v).getD v false=true
  ·rw [if_pos h,ih u hu];obtain ⟨w,hw,hcw⟩:=(ih v (by omega)).1 h;constructor
   ·rintro ⟨x,hx,h2⟩; exact ⟨x,by omega,h2⟩
   ·rintro ⟨x,hx,h2⟩;by_cases e:x=v
    ·subst e; exact ⟨w,hw,hcw.trans h2⟩
    ·exact ⟨x,by omega,h2⟩
  ·rw [if_neg h,C35 (B2c g.es n v) u hu,ih u hu,B6t hc hn (by omega) hu];constructor
   ·rintro (⟨x,hx,h2⟩ | h2)
    ·exact ⟨x,by omega,h2⟩
    ·exact ⟨v,by omega,h2⟩
   ·rintro ⟨x,hx,h2⟩;by_cases e:x=v
    ·subst e; exact .inr h2
    ·exact .inl ⟨x,by omega,h2⟩
theorem A5P {g:G} {n:Nat} (hc:checkG g=0) (hn:g.n=n): ∀v,v≤n->(A1K g.es n v:Int)=rootsN (genS (endsL g.es)).1 v:=by
 have hn12:=(A0h.1 hc).1;have hr:B89 (endsL g.es):=fun p hp=>by have:=A2f hc hn p hp; omega
 intro v
 induction v with
 | zero=>intro _; rfl
 | succ v ih=>
  intro hv;have ih:=ih (by omega);have hsp:=B8C hc hn v (by omega) v (by omega);have hrt:=A3O hr (v:=v) (by omega);simp only [A1K,rootsN];unfold GT at hsp;by_cases h:(A6y g.es n v).getD v false=true
  ·rw [if_pos h,if_neg (fun e=>hrt.1 e (hsp.1 h))]; omega
  ·rw [if_neg h,if_pos (hrt.2 fun e=>h (hsp.2 e))]; omega
theorem C1v {g:G} {n:Nat} (hc:checkG g=0) (hn:g.n=n):C0x (endsL g.es)=(endsL g.es).length-n+A1K g.es n n:=by
 have hn12:=(A0h.1 hc).1;have hr:B89 (endsL g.es):=fun p hp=>by have:=A2f hc hn p hp; omega
 have h:=(uf _ hr).cnt;have hp:=A5P hc hn n (QQ _);have hhi: ∀k,n+k≤12->rootsN (genS (endsL g.es)).1 (n+k)=rootsN (genS (endsL g.es)).1 n+k:=fun k=>by
  induction k with
  | zero=>intro _; simp
  | succ k ih=>
   intro hk;have e:(genS (endsL g.es)).1[n+k]? =some (n+k):=(A3O hr (by omega)).2 fun ⟨u,hu,hcu⟩=>by
    have:=hcu.symm.bound (A2f hc hn) (by omega); omega
   show rootsN _ (n+k+1)=_;simp only [rootsN,ih (by omega),if_pos e]; omega
 have h12:=hhi (12-n) (by omega);rw [show n+(12-n)=12 by omega] at h12;unfold C0x;omega
def A0I (F:List Nat) (v:Nat):List Nat:=(List.range v).filter fun u=>decide (rootF F 12 u=u)
def A7B (F:List Nat) (v r:Nat):List Int:=((List.range v).filter fun u=>decide (rootF F 12 u=r)).map fun u:Nat=>(u:Int)
def A1j (F:List Nat) (v:Nat):List (List Int):=(A0I F v).map (A7B F v)
theorem A4Q (F:List Nat) (v:Nat):(A0I F v).Nodup:=List.Nodup.sublist List.filter_sublist Qq4
theorem A5r {F:List Nat} {v u:Nat}:u∈A0I F v↔u<v∧rootF F 12 u=u:=by simp [A0I]
theorem A4f (F:List Nat) (v:Nat):A0I F (v+1)=if rootF F 12 v=v then A0I F v++[v] else A0I F v:=by
 unfold A0I;rw [Jq,JJ];by_cases h:rootF F 12 v=v<;>simp [h]
theorem B6u (F:List Nat) (v:Nat):(A0I F v).length≤v:=by
 unfold A0I;exact Yk (Jy _ _) (by simp)
theorem A5s (F:List Nat) (v r:Nat):A7B F (v+1) r=if rootF F 12 v=r then A7B F v r++[(v:Int)] else A7B F v r:=by
 unfold A7B;rw [Jq,JJ];by_cases h:rootF F 12 v=r<;>simp [h]
theorem B8D {F:List Nat} (hF:FOk F) {v:Nat} (hv:v<12) (h:rootF F 12 v=v):A1j F (v+1)=A1j F v++[[(v:Int)]]:=by
 unfold A1j;rw [A4f,if_pos h,Jv];congr 1
 ·refine Wk fun r hr=> ?_;have:=(A5r.1 hr).1;rw [A5s,if_neg (by omega)]
 ·simp only [Xk,Zj];rw [A5s,if_pos h];have:A7B F v v=[]:=by
   unfold A7B;rw [List.map_eq_nil_iff,List.filter_eq_nil_iff];intro u hu;have hu':=XQ.1 hu;have:=A2w hF (n:=12) (v:=u) (by omega);simp only [decide_eq_true_eq]; omega
  rw [this]; rfl
theorem B8E {F:List Nat} {v k:Nat} (h:rootF F 12 v≠v) {r:Nat} (hk:(A0I F v)[k]? =some r) (hr:rootF F 12 v=r):(A0I F (v+1))=A0I F v∧(A1j F v)[k]? =some (A7B F v r)∧A1j F (v+1)=(A1j F v).set k (A7B F v r++[(v:Int)]):=by
 have e1:A0I F (v+1)=A0I F v:=by rw [A4f,if_neg h]
 refine ⟨e1,by simp [A1j,hk],?_⟩;unfold A1j;rw [e1];apply Zx;intro i;have hkl:=(Qx.1 hk).1;by_cases e:k=i
 ·subst e;rw [QW (by simpa using hkl),QY,hk];simp only [Option.map_some];rw [A5s,if_pos hr]
 ·rw [QX e,QY,QY];cases hi:(A0I F v)[i]? with
  | none=>rfl
  | some s=>
   simp only [Option.map_some];rw [A5s,if_neg];intro hs;obtain ⟨hil,e2⟩:=Qx.1 hi;obtain ⟨_,e3⟩:=Qx.1 hk;have hnd:=A4Q F v;rw [List.Nodup,Yz] at hnd;have e4:(A0I F v)[k]=(A0I F v)[i]:=by rw [e2,e3,<-hr,hs]
   rcases Nat.lt_or_gt_of_ne e with h | h
   ·exact hnd k i hkl hil h e4
   ·exact hnd i k hil hkl h e4.symm
def mR:Nat->List Nat->List (MKey×MV)
 | _,[]=>[]
 | b,r::l=>(.int r,.c (.int .i64 (b:Int)))::mR (b+1) l
theorem B8F: ∀(b:Nat) (l:List Nat) (r:Nat),r∉l->mIdx (mR b l) (.int r)=none
 | b,[],r,_=>rfl
 | b,x::l,r,h=>by
  have h1: ¬x=r:=fun e=>h (by simp [e]);have h2:=B8F (b+1) l r (fun hm=>h (by simp [hm]));unfold mIdx at h2 ⊢;simp only [mR,JW,h2,Option.map_none];rw [if_neg];intro e;have:(MKey.int (x:Int))= .int r:=by simpa using e
  injection this with e;exact h1 (by omega)
theorem C5f: ∀(b:Nat) (l:List Nat) (k r:Nat),l.Nodup->l[k]? =some r->mIdx (mR b l) (.int r)=some k∧(mR b l)[k]? =some (.int r,.c (.int .i64 ((b+k:Nat):Int)))
 | b,[],k,r,_,h=>by simp at h
 | b,x::l,0,r,_,h=>by
  simp at h; subst h;simp [mIdx,mR,JW]
 | b,x::l,k+1,r,hn,h=>by
  rw [Qz3] at hn;have h':l[k]? =some r:=by simpa using h
  obtain ⟨q1,q2⟩:=C5f (b+1) l k r hn.2 h';have h1: ¬x=r:=fun e=>hn.1 (by rw [e]; exact Qy h');constructor
  ·unfold mIdx at q1 ⊢;simp only [mR,JW,q1,Option.map_some];rw [if_neg];intro e;have:(MKey.int (x:Int))= .int r:=by simpa using e
   injection this with e;exact h1 (by omega)
  ·simp only [mR,List.getElem?_cons_succ,q2];rw [show b+1+k=b+(k+1) by omega]
theorem C2E {l:List Nat} {k r:Nat} (hn:l.Nodup) (h:l[k]? =some r) (z:MV):A6M (mR 0 l) (.int r) z= .c (.int .i64 (k:Int)):=by
 obtain ⟨q1,q2⟩:=C5f 0 l k r hn h;unfold A6M;simp [q1,q2]
theorem B8G: ∀(b:Nat) (l:List Nat) (r:Nat),mR b (l++[r])=mR b l++[(.int r,.c (.int .i64 ((b+l.length:Nat):Int)))]
 | b,[],r=>by simp [mR]
 | b,x::l,r=>by
  have:=B8G (b+1) l r;simp only [List.cons_append,mR,this,List.length_cons];rw [show b+1+l.length=b+(l.length+1) by omega]
theorem C5g {l:List Nat} {r:Nat} (h:r∉l):B2U (mR 0 l) (.int r) (.c (.int .i64 (l.length:Int)))=mR 0 (l++[r]):=by
 unfold B2U;rw [B8F 0 l r h,B8G];simp
theorem A6z: ∀{b:Nat} {l:List Nat},∀e,e∈mR b l->KShape.ok .int e.1=true
 | b,[],e,h=>by simp [mR] at h
 | b,x::l,e,h=>by
  rcases Qw.1 h with rfl | h
  ·rfl
  ·exact A6z e h
theorem A0Z {m:Nat} {F:List Nat}:Go.Sp.cellsIn m (fC F):=A0q fun _=>Qw7
def tF (F:List Nat):TVal:= .agg (fT F)
theorem B6v (F:List Nat):(fT F).map A04=fC F:=by simp [fT,fC,A04]
theorem A34 (Z F:List Nat) (h:Z.length=F.length):setMany (fC Z) 0 (fC F)=fC F:=by
 apply Zx;intro i;rw [A2k _ _ _ _ (by simp [A0V,h])];by_cases hi:i<F.length
 ·rw [if_pos ⟨Xj _,by rw [A0V]; omega⟩,Nat.sub_zero]
 ·rw [if_neg (by rw [A0V]; omega),Xq (by rw [A0V]; omega),Xq (by rw [A0V]; omega)]
theorem A4g: ∀F:List Nat,A3X (fC F)=true
 | []=>rfl
 | _::F=>A4g F
theorem A60 (H:List Blk): ∀F:List Nat,(fC F).mapM (A0d H)=some (fT F)
 | []=>rfl
 | x::F=>by
  have ih:=A60 H F;simp only [fC,fT,Xk,JX] at ih ⊢;rw [ih]; rfl
theorem B8H:ACall Tryz.prog 211 [] (tF (List.range 12)):=by
 refine ACall.of_body Tryz.func211 rfl (by kernel_rfl) ?_;simp only [entry,Tryz.ntmps211];refine zU ?_;refine zR Qw9 Qw9 Qw9 ?_;refine AWp.loopS (α:=Nat) 11 (fun i=>[(0,.c (.ptr 0 0)),(1,.c (.ptr 1 0)),(3,.c (.int .i64 (i:Int)))]) (fun i=>[.box (fC (List.replicate 12 0)),.box (fC (A7c i))]) (fun i=>i≤12) (fun i=>12-i) (0) (hk:=Weak.headL 2 11 [0,1,3] (zV @A0Z)) (h0:=?_) (round:=fun i hI=>?_)
 ·exact Xj _
 ·by_cases hlt:i<12
  ·have hset:=A8H hlt;have hlen:=A8I hI;generalize A7c i=F at*;refine zR (zc @A0V (zc @hlen (zc @A7z (zc @A4N (zc @hset Qw9))))) Qw9 Qw9 ?_;refine ⟨i+1,Weak.headN 2 11 [0,1,3] (zV @A0Z),?_,?_⟩
   ·exact hlt
   ·omega
  ·have ei:i=12:=by omega
   subst ei;rw [B0S];have hl:(List.range 12).length=12:=Vj;generalize List.range 12=F at*;have ht:(fC F).take 12=fC F:=ZJ (by rw [A0V,hl]; exact QQ _);have hs:=A34 (List.replicate 12 0) F (by simp [hl]);have hlr:(List.replicate 12 0:List Nat).length=12:=by simp
   generalize List.replicate 12 0=Z at*;refine zR (zc @A0V (zc @hl (zc @hlr (zc @ht (zc @hs (zc @A4g Qw9)))))) Qw9 Qw9 ?_;have hm:=A60 [Blk.box (fC F),Blk.box (fC F)] F;simp [A0y,A0x,Blk.cells,ty,Tryz.results211,A0s,A0t,toT,A0d,A0b,A0c,A0a,hm,hl,ht,A0V,tF]
theorem C1w (F:List Nat) (h:FOk F) (v:Nat) (hv:v<12):ACall Tryz.prog 213 [.t (.rptr (fT F)),A0k v] (A0k (rootF F 12 v)):=by
 have hF:=h.len;refine ACall.of_body Tryz.func213 rfl (by kernel_rfl) ?_;simp only [entry,Tryz.ntmps213,A0k];refine zU ?_;refine zR Qw9 Qw9 Qw9 ?_;refine AWp.loopS (α:=Nat) 18 (fun u=>[(0,.c (.rptr (fT F))),(1,.c (.int .i64 (u:Int)))]) (fun u=>[]) (fun u=>u<12∧rootF F 12 v=rootF F 12 u) (fun u=>u) (v) (hk:=Weak.headL 0 18 [0,1] (zV @A0Z)) (h0:=?_) (round:=fun u hI=>?_)
 ·exact ⟨hv,rfl⟩
 ·obtain ⟨hu,hx⟩:=hI;have hul:u<F.length:=by omega
  have e1:=B3y hul;have e2:=A2M h hul;have e3:=h.le u hul
  repeat' (first|((first|(refine zT ?_;intro K' hK')|(refine zG ?_ ?_<;>(try refine zH ?_)<;>intro hguard<;>(try exact zX)<;>try intro K' hK'))<;>((try simp+contextual only [go_sem,e1,Int.toNat_natCast,Yj]);(repeat' first|(with_reducible refine hK' _ _ ?_;clear hK' K')|exact zY|with_reducible refine Qw8 ?_ ?_|(with_reducible intro hpath;try exact zP)|(refine hK' _ _ ?_;clear hK' K')|fail);try refine zS ?_))|(refine zE ?_;refine hK _ _ ?_;clear hK K)|(refine zN ?_;try refine zS ?_)|refine zA ?_|(refine zB ?_;intro K hK)|(refine zC ?_ ?_<;>(try refine zH ?_)<;>intro hcond<;>try exact zX)|fail)
  ·rw [if_neg (by omega)] at e2;refine ⟨F[u],Weak.headN 0 18 [0,1] (zV @A0Z),?_,?_⟩
   ·exact ⟨by omega,by rw [hx,e2]⟩
   ·omega
  ·rw [if_pos (by omega)] at e2;have e:rootF F 12 v=u:=by rw [hx,e2]
   simp [A0y,A0x,Blk.cells,ty,Tryz.results213,A0s,A0t,toT,A0d,A0b,A0c,A0a,A0k,e]
theorem A7f (F:List Nat) (h:FOk F) (v:Nat) (hv:v<12) {H:List Blk} {id:Nat} (hb:H[id]? =some (.box (fC F))):
  ACallH Tryz.prog 213 H [.c (.ptr id 0),.c (.int .i64 (v:Int))] H (.c (.int .i64 (rootF F 12 v:Nat))):=
 ACall.hb (C1w F h v hv) (by simp [toT,A0d,A0b,hb,Blk.cells,B0R,A0a,A0k]) rfl
theorem C1x (F:List Nat) (h:FOk F) (a b:Nat) (ha:a<12) (hb:b<12) {H:List Blk} {id:Nat} (hid:H[id]? =some (.box (fC F))):
  ACallH Tryz.prog 212 H [.c (.ptr id 0),.c (.int .i64 (a:Int)),.c (.int .i64 (b:Int))] (H.set id (.box (fC (F.set (max (rootF F 12 a) (rootF F 12 b)) (min (rootF F 12 a) (rootF F 12 b)))))) (.tup []):=by
 have rx:=A7f F h a ha hid;have ry:=A7f F h b hb hid;have la:=A2w h (n:=12) ha;have lb:=A2w h (n:=12) hb;generalize rootF F 12 a=x at*;generalize rootF F 12 b=y at*;have hmax:max (x:Int) (y:Int)=((max x y:Nat):Int):=by omega
 have hmin:min (x:Int) (y:Int)=((min x y:Nat):Int):=by omega
 refine ACallH.of_body Tryz.func212 rfl (by kernel_rfl) ?_;simp only [entry,Tryz.ntmps212,List.length_cons,List.length_nil,Nat.reduceAdd,Nat.reduceSub,List.replicate_succ,List.replicate_zero,List.cons_append,List.nil_append];refine zJ Qw9 (zc @A0V (zc @A7z (zc @A4N (zc @hmax (zc @hmin (zc @h.len (zc @hid Qw9))))))) Qw9 (zc rx (zc ry Qw9)) Qw9 ?_;simp [A4D,A1Y,A0s,A1X,Tryz.results212]
def A1V (es:List E):List (Int×Int):=es.map fun e=>(e.a,e.b)
theorem B3D {g:G} (hc:checkG g=0) {p:Int×Int} (h:p∈A1V g.es):(0≤p.1∧p.1<g.n)∧(0≤p.2∧p.2<g.n):=by
 obtain ⟨e,he,rfl⟩:=QJ.1 h;have:=(A0h.1 hc).2.1 e he;unfold okE at this;simp only; omega
theorem A7g {g:G} (hc:checkG g=0):B89 (A1V g.es):=fun p hp=>by
 have:=B3D hc hp;have:=(A0h.1 hc).1;omega
def A23:List Nat:=List.replicate 12 0
theorem B6w:A23.length=12:=by simp [A23]
theorem B6x (g:G) (hc:checkG g=0) (hl:g.es.length<2^30):ACall Tryz.prog 191 [tG g] (tF (genS (A1V g.es)).1):=by
 have h12:=A7g hc;obtain ⟨n,es⟩:=g;simp only at h12 hl ⊢;have hg:=B8H;have hr12:(List.range 12).length=12:=Vj;have h0:(genS ((A1V es).take 0)).1=List.range 12:=rfl;refine ACall.of_body Tryz.func191 rfl (by kernel_rfl) ?_;simp only [entry,Tryz.ntmps191,tG];refine zU ?_;generalize hR:List.range 12=R at*;have hof:(fT R).map A04=fC R:=B6v R;have hst:=A34 A23 R (by rw [hr12]; rfl);have hlz:A23.length=12:=B6w;have hz:fC A23=[.int .i64 0,.int .i64 0,.int .i64 0,.int .i64 0,.int .i64 0,.int .i64 0,.int .i64 0,.int .i64 0,.int .i64 0,.int .i64 0,.int .i64 0,.int .i64 0]:=rfl;rw [hz] at hst;unfold tF at hg;refine zR (zc @A06 (zc @A0V (zc @A4g (zc @hof (zc @hst (zc @hr12 Qw9)))))) (zc hg Qw9) Qw9 ?_;rw [<-h0];refine AWp.loopS (α:=Nat) 21 (fun i=>[(2,.c (.ptr 1 0)),(3,.c (.ptr 2 0)),(8,.c (.slice (A0f es) .none)),(9,.c (.int .i64 (es.length:Int))),(10,.c (.int .i64 (i:Int)))]) (fun i=>[.box [.int .i64 n,.slice (A0f es) .none],.box (fC A23),.box (fC (genS ((A1V es).take i)).1)]) (fun i=>i≤es.length) (fun i=>es.length-i) (0) (hk:=Weak.headL 3 21 [2,3,8,9,10] (zV @A0Z)) (h0:=?_) (round:=fun i hI=>?_)
 ·exact Xj _
 ·have hi:i≤es.length:=hI;clear hI;have hok:=B8o (l:=(A1V es).take i) fun q hq=>h12 q (VQ hq);by_cases hlt:i<es.length
  ·have hltI:(i:Int)<es.length:=by omega
   have e0:=Qq hlt;have e1:=A2e e0;have hp:(A1V es)[i]? =some (es[i].a,es[i].b):=by simp [A1V,e0]
   have hsn:=take_snoc hp;have hnx:=A8G ((A1V es).take i) (es[i].a,es[i].b);rw [<-hsn] at hnx;have hrng:=h12 _ (Qy hp);generalize es[i]=x at*;obtain ⟨xa,xb,xm⟩:=x;simp only at hrng hnx e1;obtain ⟨a,rfl⟩:=XW hrng.1.1;obtain ⟨b,rfl⟩:=XW hrng.2.1;have ha:a<12:=by omega
   have hb:b<12:=by omega
   have hF:=hok.1;simp only [A1H,Int.toNat_natCast] at hnx;have hn1:=congrArg Prod.fst hnx;simp only at hn1;generalize (genS ((A1V es).take i)).1=F at*;have hJ:=C1x F hF a b ha hb (H:=[.box [.int .i64 n,.slice (A0f es) .none],.box (fC A23),.box (fC F),.box [.int .i64 (a:Int),.int .i64 (b:Int),.int .i64 xm]]) (id:=2) rfl;rw [<-hn1] at hJ;simp only [List.set_cons_succ,List.set_cons_zero] at hJ;refine zJ Qw9 (zc @hltI (zc @e1 (zc @A06 Qw9))) Qw9 (zc hJ Qw9) Qw9 ?_;refine ⟨i+1,Weak.headN 3 21 [2,3,8,9,10] (zV @A0Z),?_,?_⟩
   ·exact hlt
   ·omega
  ·have ei:i=es.length:=by omega
   subst ei;have hnl: ¬((es.length:Int)<es.length):=by omega
   have htk:(A1V es).take es.length=A1V es:=ZJ (by simp [A1V]);rw [htk];rw [htk] at hok;have hlF:=hok.1.len;generalize (genS (A1V es)).1=F at*;have ht:(fC F).take 12=fC F:=ZJ (by rw [A0V,hlF]; exact QQ _);have hs:=A34 A23 F (by rw [hlF]; rfl);generalize A23=Z at*;refine zR (zc @hnl (zc @A0V (zc @hlF (zc @hlz (zc @ht (zc @hs (zc @A4g Qw9))))))) Qw9 Qw9 ?_;have hm:=A60 [Blk.box [.int .i64 n,.slice (A0f es) .none],Blk.box (fC F),Blk.box (fC F)] F;simp [A0y,A0x,Blk.cells,ty,Tryz.results191,A0s,A0t,toT,A0d,A0b,A0c,A0a,hm,hlF,ht,A0V,tF]
def zI (T:List Nat):List Int:=T.map fun x:Nat=>(x:Int)
theorem A35 (T:List Nat):(zI T).length=T.length:=by simp [zI]
def LI (L:List (Nat×Nat)):List (Int×Int):=L.map fun p=>((p.1:Int),(p.2:Int))
structure VX (s:BS) (j cap:Nat) (X:List Blk):Prop where
 vec:X[j]? =some (.box (fC s.opn++List.replicate (cap-s.opn.length) .any))
 cap:s.opn.length≤cap
 inn: ∀b,b∈X-> ∀m,blkIn m b
theorem B3E (ts:List Tree):chunks 1 ts.length ts=ts.map fun t=>[t]:=by
 have h:=Go.Sp.chunks_flatten (k:=1) (rows:=ts.map fun t=>[t]) (fun r hr=>by obtain ⟨t,_,rfl⟩:=QJ.1 hr; rfl);have hf: ∀l:List Tree,(l.map fun t=>[t]).flatten=l:=fun l=>by
  induction l with
  | nil=>rfl
  | cons x l ih=>simp only [Xk,List.flatten_cons,ih]; rfl
 rw [Zq,hf] at h;exact h
end Go.Proofs.YtdbdfkohpjefjaaGreat
