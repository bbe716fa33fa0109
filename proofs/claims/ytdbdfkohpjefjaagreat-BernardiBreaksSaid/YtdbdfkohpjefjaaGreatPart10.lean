/- A part of the proof. -/
import Derived.Test.YtdbdfkohpjefjaaGreatPart07
set_option linter.all false
set_option maxHeartbeats 4000000
set_option maxRecDepth 100000
namespace Go.Proofs.YtdbdfkohpjefjaaGreat
open Go.Sp
def A9t (R S:List Bool) (u:Nat):List Bool:=S.set u (S.getD u false||R.getD u false)
def orK (R S:List Bool) (k:Nat):List Bool:=(List.range k).foldl (A9t R) S
def B0F (R S:List Bool) (u:Nat):(A9t R S u).length=S.length:=by simp [A9t]
def B92 (R S:List Bool) (k:Nat):(orK R S k).length=S.length:=A3l (B0F R) _ _
def seenStep (es:List E) (n:Nat) (S:List Bool) (v:Nat):List Bool:=if S.getD v false then S else orK (A9s es n v) S n
def A6A (es:List E) (n v:Nat):List Bool:=(List.range v).foldl (seenStep es n) (List.replicate n false)
def B3c (es:List E) (n v:Nat):(A6A es n v).length=n:=by
 unfold A6A;rw [A3l (fun S v=>by unfold seenStep; split<;>simp [B92])]; simp
def A2o (es:List E) (n:Nat):Nat->Nat
 | 0=>0
 | v+1=>if (A6A es n v).getD v false then A2o es n v else A2o es n v+1
def B93 (es:List E) (n v:Nat):A2o es n v≤v:=by
 induction v with
 | zero=>exact Qk _
 | succ v ih=>simp only [A2o]; split<;>omega
def B44 {R:List Bool} {i:Nat} {x:Bool} (h:R[i]? =some x):R.getD i false=x:=by rw [Qz,h]; rfl
def C2I (g:G) (n:Nat) (hc:checkG g=0) (hn:g.n=n) (hl:g.es.length<2^30):ACall Tryz.prog 88 [tG g] (A0j (A2o g.es n n)):=by
 have hn12:=(A0h.1 hc).1;have hre: ∀v:Nat,v<n->ACall Tryz.prog 145 [tG g,A0j v] (B0D (A9s g.es n v)):=fun v hv=>B7q g n v hc hn hv hl;obtain ⟨gn,es⟩:=g;simp only at hn hl hn12 hre ⊢;subst hn;refine ACall.of_body Tryz.func88 rfl (by kernel_rfl) ?_;simp only [entry,Tryz.ntmps88,tG];refine zU ?_;refine zM Qv5 (zc @A3X (zc @A68 (zc @A1Z (zc @Yj.{0} Qv5)))) Qv5 Qv5 Qv5 (ed fun hp hpc=>?_);refine AWp.loopS (α:=Nat) 46 (fun v=>[(1,.c (.ptr 0 0)),(2,.c (.int .i64 0)),(3,.c (.int .i64 (A2o es n v))),(4,.c (.ref 1 1 0 n n)),(5,.c (.int .i64 (v:Int)))]) (fun v=>[.box [.int .i64 (n:Int),.slice (A0f es) .none],.box (bC (A6A es n v))]) (fun v=>v≤n) (fun v=>n-v) (0) (hk:=Weak.headL 2 46 [1,2,3,4,5] zW) (h0:=?_) (round:=fun v hI=>?_)
 ·exact Xj _
 ·have hv:v≤n:=hI;clear hI;have hlen:=B3c es n v;have hpl:=B93 es n v;by_cases hlt:v<n
  ·have hltI:(v:Int)<n:=by omega
   have hS1:A6A es n (v+1)=seenStep es n (A6A es n v) v:=A0T _ _ _;have hP1:A2o es n (v+1)=if (A6A es n v).getD v false then A2o es n v else A2o es n v+1:=rfl
   have hrv:=hre v hlt;have hrl:=A54 es n v n;generalize A2o es n v=p at*;generalize A6A es n v=S at*;obtain ⟨x,hx⟩:=A8r hlen hlt;unfold seenStep at hS1;rw [B44 hx] at hS1 hP1;have hd:=B43 hx;have hg:=B0E hx;cases x with
   | true=>
    rw [if_pos rfl] at hS1 hP1;refine zR (zc @hltI (zc @hd (zc @hg (zc @A1Z (zc @hlen Qv5))))) Qv5 Qv5 ?_;refine ⟨v+1,Weak.headF 2 46 [1,2,3,4,5] (zc @hS1 (zc @hP1 Qv5)) zW,?_,?_⟩
    ·exact hlt
    ·omega
   | false=>
    rw [if_neg (by simp)] at hS1 hP1;change (A9s es n v).length=n at hrl;generalize A9s es n v=R at*;refine zR (zc @hltI (zc @hd (zc @hg (zc @A1Z (zc @hlen Qv5))))) (zc hrv Qv5) Qv5 ?_;refine AWp.loopS (α:=Nat) 46 (fun u=>[(1,.c (.ptr 0 0)),(2,.c (.int .i64 0)),(3,.c (.int .i64 ((p:Int)+1))),(4,.c (.ref 1 1 0 n n)),(5,.c (.int .i64 (v:Int))),(6,.c (.slice (A46 R) .none)),(7,.c (.int .i64 (u:Int)))]) (fun u=>[.box [.int .i64 (n:Int),.slice (A0f es) .none],.box (bC (orK R S u))]) (fun u=>u≤n) (fun u=>n-u) (0) (hk:=Weak.headL 2 46 [1,2,3,4,5,6,7] zW) (h0:=?_) (round:=fun u hI=>?_)
    ·exact Xj _
    ·have hu:u≤n:=hI;clear hI;have hlen2:(orK R S u).length=n:=(B92 R S u).trans hlen;by_cases hltu:u<n
     ·have hltuI:(u:Int)<n:=by omega
      have hO:orK R S (u+1)=A9t R (orK R S u) u:=A0T _ _ _;generalize orK R S u=T at*;obtain ⟨y,hy⟩:=A8r hlen2 hltu;obtain ⟨z,hz⟩:=A8r hrl hltu;unfold A9t at hO;rw [B44 hy,B44 hz] at hO;have hd2:=B43 hy;have hg2:=B0E hy;have hg3:=B9z hz;cases y with
      | true=>
       rw [Bool.true_or] at hO;refine zR (zc @hltuI (zc @hd2 (zc @hg2 (zc @hg3 (zc @A1Z (zc @hlen2 (zc @A68 (zc @A5a (zc @hrl Qv5))))))))) Qv5 Qv5 ?_;refine ⟨u+1,Weak.headF 2 46 [1,2,3,4,5,6,7] (zc @hO Qv5) zW,?_,?_⟩
       ·exact hltu
       ·omega
      | false=>
       rw [Qq7] at hO;refine zR (zc @hltuI (zc @hd2 (zc @hg2 (zc @hg3 (zc @A1Z (zc @hlen2 (zc @A68 (zc @A5a (zc @hrl Qv5))))))))) Qv5 Qv5 ?_;refine ⟨u+1,Weak.headF 2 46 [1,2,3,4,5,6,7] (zc @hO Qv5) zW,?_,?_⟩
       ·exact hltu
       ·omega
     ·have eu:u=n:=by omega
      subst eu;have hnl: ¬((u:Int)<u):=by omega
      refine zR (zc @hnl Qv5) Qv5 Qv5 ?_;refine ⟨v+1,Weak.headF 2 46 [1,2,3,4,5] (zc @hS1 (zc @hP1 Qv5)) zW,?_,?_⟩
      ·exact hlt
      ·omega
  ·have ev:v=n:=by omega
   subst ev;have hnl: ¬((v:Int)<v):=by omega
   refine zR (zc @hnl Qv5) Qv5 Qv5 ?_;simp [A0s,A0r,Blk.cells,ty,Tryz.results88,A0o,A0p,toT,A0d,A0b,A0c,A0a,A0j]
def A3B {α:Type} {P:List α->Prop} (h0:P []) (h1: ∀l x,P l->P (l++[x])) (l:List α):P l:=by
 have: ∀r:List α,P r.reverse:=fun r=>by
  induction r with
  | nil=>simpa using h0
  | cons x xs ih=>rw [List.reverse_cons]; exact h1 _ _ ih
 simpa using this l.reverse
inductive Conn (l:List (Int×Int)) (a:Nat):Nat->Prop
 | refl:Conn l a a
 | step {b c:Nat}:Conn l a b->(((b:Int),(c:Int))∈l∨((c:Int),(b:Int))∈l)->Conn l a c
def Conn.trans {l:List (Int×Int)} {a b c:Nat} (h1:Conn l a b) (h2:Conn l b c):Conn l a c:=by
 induction h2 with
 | refl=>exact h1
 | step _ h ih=>exact .step ih h
def Conn.one {l:List (Int×Int)} {b c:Nat} (h:((b:Int),(c:Int))∈l∨((c:Int),(b:Int))∈l):Conn l b c:= .step .refl h
def Conn.symm {l:List (Int×Int)} {a b:Nat} (h:Conn l a b):Conn l b a:=by
 induction h with
 | refl=>exact .refl
 | step _ h ih=>exact (Conn.one h.symm).trans ih
def Conn.mono {l m:List (Int×Int)} (hs: ∀p,p∈l->p∈m) {a b:Nat} (h:Conn l a b):Conn m a b:=by
 induction h with
 | refl=>exact .refl
 | step _ h ih=>exact .step ih (h.imp (hs _) (hs _))
def Conn.bound {l:List (Int×Int)} {n:Nat} (hr: ∀p,p∈l->(0≤p.1∧p.1<n)∧(0≤p.2∧p.2<n)) {a b:Nat} (h:Conn l a b) (ha:n≤a):b=a:=by
 induction h with
 | refl=>rfl
 | step _ h ih=>
  rcases h with h | h
  ·have:=hr _ h; simp only at this; omega
  ·have:=hr _ h; simp only at this; omega
variable {F:List Nat}
def A8s (h:FOk F): ∀{u:Nat},u<12->F[rootF F 12 u]? =some (rootF F 12 u):=by
 intro u
 induction u using Nat.strongRecOn with
 | _ u ih=>
  intro hu;have hul:u<F.length:=by rw [h.len]; exact hu
  have hle:=h.le u hul;rw [A2U h hul];by_cases e:F[u]=u
  ·rw [if_pos e,Qq hul,e]
  ·rw [if_neg e]; exact ih _ (by omega) (by omega)
def A5b (h:FOk F) {u:Nat} (hu:u<12) (e:F[u]? =some u):rootF F 12 u=u:=by
 have hul:u<F.length:=by rw [h.len]; exact hu
 rw [A2U h hul,if_pos (by rw [Qq hul] at e; exact JX e)]
def root_lt (h:FOk F) {u:Nat} (hu:u<12):rootF F 12 u<12:=by
 have:=A24 h (n:=12) hu; omega
def B1E (h:FOk F) {u:Nat} (hu:u<12):rootF F 12 u=u↔F[u]? =some u:=
 ⟨fun e=>by have:=A8s h hu; rwa [e] at this,A5b h hu⟩
def B7s (h:FOk F) {M m:Nat} (hM:M<12) (hm:m≤M) (eM:F[M]? =some M) (em:F[m]? =some m): ∀{u:Nat},u<12->rootF (F.set M m) 12 u=if rootF F 12 u=M then m else rootF F 12 u:=by
 have h':FOk (F.set M m):=⟨by simp [h.len],fun i hi=>by
  rw [Qz5]; split
  ·omega
  ·exact h.le i (by simpa using hi)⟩
 intro u
 induction u using Nat.strongRecOn with
 | _ u ih=>
  intro hu;have hul:u<F.length:=by rw [h.len]; exact hu
  have hul':u<(F.set M m).length:=by simpa using hul
  have hle:=h.le u hul;rw [A2U h' hul',Qz5];by_cases e:M=u
  ·subst e;rw [if_pos rfl,A5b h hu eM,if_pos rfl];by_cases e2:m=M
   ·rw [if_pos e2]; exact e2.symm
   ·rw [if_neg e2,ih m (by omega) (by omega),A5b h (by omega) em,if_neg e2]
  ·rw [if_neg e,A2U h hul];by_cases e2:F[u]=u
   ·rw [if_pos e2,if_pos e2,if_neg (fun x=>e x.symm)]
   ·rw [if_neg e2,if_neg e2]; exact ih _ (by omega) (by omega)
def rootsN (F:List Nat):Nat->Int
 | 0=>0
 | k+1=>rootsN F k+(if F[k]? =some k then 1 else 0)
def B7t {M m:Nat} (hM:M<F.length) (hne:m≠M) (eM:F[M]? =some M) (k:Nat):rootsN (F.set M m) k=rootsN F k-(if M<k then 1 else 0):=by
 induction k with
 | zero=>simp [rootsN]
 | succ k ih=>
  simp only [rootsN,ih];by_cases e:M=k
  ·subst e;rw [QX hM,if_neg (show ¬(some m=some M) from fun h=>hne (JX h)),if_pos eM,if_neg (show ¬M<M by omega),if_pos (show M<M+1 by omega)]; omega
  ·rw [Qy e];by_cases e2:M<k
   ·rw [if_pos e2,if_pos (show M<k+1 by omega)]; omega
   ·rw [if_neg e2,if_neg (show ¬M<k+1 by omega)]; omega
structure UF (l:List (Int×Int)):Prop where
 ok:FOk (genS l).1
 sound: ∀u,u<12->Conn l u (rootF (genS l).1 12 u)
 all: ∀p,p∈l->rootF (genS l).1 12 p.1.toNat=rootF (genS l).1 12 p.2.toNat
 cnt:(genS l).2+12=l.length+rootsN (genS l).1 12
def B94 (l:List (Int×Int)):Prop:= ∀p,p∈l->(0≤p.1∧p.1<12)∧(0≤p.2∧p.2<12)
def uf (l:List (Int×Int)) (hr:B94 l):UF l:=by
 revert hr;refine A3B (P:=fun l=>B94 l->UF l) ?_ ?_ l
 ·intro _;have h0:FOk (List.range 12):=⟨by simp,fun i hi=>by simp⟩;refine ⟨h0,fun u hu=> ?_,(fun p hp=>absurd hp (by simp)),?_⟩
  ·have e:rootF (genS []).1 12 u=u:=A5b h0 hu (by rw [Yv hu]);rw [e]; exact .refl
  ·decide
 ·intro l p ih hr;have hl:=ih fun q hq=>hr q (by simp [hq]);have hp:=hr p (by simp);obtain ⟨ok,sound,all,cnt⟩:=hl;have hsn:=A9n l p;have ok':=B0C (s:=genS l) ok hp.1 hp.2;rw [<-hsn] at ok';generalize hF:(genS l).1=F at*;generalize hc:(genS l).2=c at*;have h1:p.1.toNat<12:=by omega
  have h2:p.2.toNat<12:=by omega
  have e1:=A8s ok h1;have e2:=A8s ok h2;have l1:=root_lt ok h1;have l2:=root_lt ok h2;have hgF:(genS (l++[p])).1=F.set (max (rootF F 12 p.1.toNat) (rootF F 12 p.2.toNat)) (min (rootF F 12 p.1.toNat) (rootF F 12 p.2.toNat)):=by rw [hsn]; simp only [A1G,hF]
  have hgc:(genS (l++[p])).2=if rootF F 12 p.1.toNat=rootF F 12 p.2.toNat then c+1 else c:=by rw [hsn]; simp only [A1G,hF,hc]
  have c1:=sound _ h1;have c2:=sound _ h2;have hsub: ∀q,q∈l->q∈l++[p]:=fun q hq=>by simp [hq]
  have hpp:Conn (l++[p]) p.1.toNat p.2.toNat:=Conn.one (.inl (by
   have:((p.1.toNat:Nat):Int)=p.1:=by omega
   have h3:((p.2.toNat:Nat):Int)=p.2:=by omega
   rw [this,h3]; simp))
  have hab:Conn (l++[p]) (rootF F 12 p.1.toNat) (rootF F 12 p.2.toNat):=((c1.mono hsub).symm.trans hpp).trans (c2.mono hsub);generalize ha:rootF F 12 p.1.toNat=a at*;generalize hb:rootF F 12 p.2.toNat=b at*;have eM:F[max a b]? =some (max a b):=by rcases Nat.le_total a b with h | h<;>simp [Nat.max_eq_right,Nat.max_eq_left,h,e1,e2]
  have em:F[min a b]? =some (min a b):=by rcases Nat.le_total a b with h | h<;>simp [Nat.min_eq_right,Qq6,h,e1,e2]
  have hun:=fun {u:Nat} (hu:u<12)=>B7s ok (M:=max a b) (m:=min a b) (by omega) (by omega) eM em hu;refine ⟨ok',fun u hu=> ?_,fun q hq=> ?_,?_⟩
  ·rw [hgF,hun hu];have hs:=(sound u hu).mono hsub;by_cases e:rootF F 12 u=max a b
   ·rw [if_pos e];refine hs.trans ?_;rw [e];rcases Nat.le_total a b with h | h
    ·rw [Nat.max_eq_right h,Qq6 h]; exact hab.symm
    ·rw [Nat.max_eq_left h,Nat.min_eq_right h]; exact hab
   ·rw [if_neg e]; exact hs
  ·rw [hgF];rcases XZ.1 hq with hq | hq
   ·have hq2:=hr q (by simp [hq]);rw [hun (by omega),hun (by omega),all q hq]
   ·obtain rfl:=XQ.1 hq;rw [hun h1,hun h2,ha,hb];by_cases x:a=max a b<;>by_cases y:b=max a b
    ·rw [if_pos x,if_pos y]
    ·rw [if_pos x,if_neg y]; omega
    ·rw [if_neg x,if_pos y]; omega
    ·omega
  ·rw [hgF,hgc,Xv,List.length_singleton];by_cases e:a=b
   ·subst e;rw [if_pos rfl,Nat.max_self,Nat.min_self];have hal:a<F.length:=by rw [ok.len]; exact l1
    have:F.set a a=F:=by
     apply Zq;intro i;by_cases hi:a=i
     ·subst hi; rw [QX hal,e1]
     ·rw [Qy hi]
    rw [this]; omega
   ·rw [if_neg e,B7t (by rw [ok.len]; omega) (by omega) eM,if_pos (by omega)]; omega
def B95 {l:List (Int×Int)} (hr:B94 l) {u w:Nat} (hu:u<12) (hw:w<12):Conn l u w↔rootF (genS l).1 12 u=rootF (genS l).1 12 w:=by
 have h:=uf l hr;constructor
 ·intro hc;have key: ∀w,Conn l u w->w<12->rootF (genS l).1 12 u=rootF (genS l).1 12 w:=by
   intro w hc
   induction hc with
   | refl=>intro _; rfl
   | step _ hh ih=>
    intro hw;rename_i b c _;rcases hh with hh | hh
    ·have:=hr _ hh;rw [ih (by omega)]; simpa using h.all _ hh
    ·have:=hr _ hh;rw [ih (by omega)]; simpa using (h.all _ hh).symm
  exact key w hc hw
 ·intro e;have h1:=h.sound u hu;have h2:=h.sound w hw;rw [e] at h1;exact h1.trans h2.symm
def A3Z {l:List (Int×Int)} (hr:B94 l) {v:Nat} (hv:v<12):(genS l).1[v]? =some v↔ ¬ ∃u,u<v∧Conn l u v:=by
 have h:=uf l hr;rw [<-B1E h.ok hv];constructor
 ·rintro e ⟨u,hu,hc⟩;have:=(B95 hr (by omega) hv).1 hc;have:=A24 h.ok (n:=12) (v:=u) (by omega);omega
 ·intro hn;have hle:=A24 h.ok (n:=12) hv;by_cases e:rootF (genS l).1 12 v=v
  ·exact e
  ·exact absurd ⟨_,by omega,(h.sound v hv).symm⟩ hn
def GT (R:List Bool) (u:Nat):Prop:=R.getD u false=true
def C4S {R:List Bool} {u:Nat} (h:GT R u):u<R.length:=by
 unfold GT at h;rw [Qz] at h;by_cases hu:u<R.length
 ·exact hu
 ·rw [Xq (by omega)] at h; simp at h
def C3Y {R:List Bool} {b u:Nat} (hb:b<R.length):GT (R.set b true) u↔u=b∨GT R u:=by
 unfold GT;rw [Qz,Qz];by_cases e:b=u
 ·subst e; rw [QX hb]; simp
 ·rw [Qy e];constructor
  ·intro h; exact .inr h
  ·rintro (h | h)
   ·exact absurd h.symm e
   ·exact h
variable {es:List E}
def B45 {a b u:Nat} {R:List Bool} (hb:b<R.length):GT (A3Y es a R b) u↔GT R u∨(u=b∧GT R a∧B8j es a b=true):=by
 unfold A3Y;by_cases h:(R.getD a false&&B8j es a b)=true
 ·rw [if_pos h,C3Y hb];simp only [XV] at h;constructor
  ·rintro (rfl | h2)
   ·exact .inr ⟨rfl,h.1,h.2⟩
   ·exact .inl h2
  ·rintro (h2 | ⟨rfl,_⟩)
   ·exact .inr h2
   ·exact .inl rfl
 ·rw [if_neg h];simp only [XV,not_and] at h;constructor
  ·exact .inl
  ·rintro (h2 | ⟨_,h3,h4⟩)
   ·exact h2
   ·exact absurd h4 (h h3)
def A4p {f:List Bool->Nat->List Bool} (P:Nat->List Bool->Prop) {z:List Bool} (h0:P 0 z) (k:Nat) (h1: ∀i R,i<k->P i R->P (i+1) (f R i)):P k ((List.range k).foldl f z):=by
 induction k with
 | zero=>exact h0
 | succ k ih=>rw [A0T]; exact h1 _ _ (by omega) (ih fun i R hi=>h1 i R (by omega))
structure Rd (es:List E) (n:Nat) (R S:List Bool):Prop where
 len:S.length=n
 up: ∀u,GT R u->GT S u
def C2J {es:List E} {n a:Nat} {R:List Bool} (hl:R.length=n):Rd es n R (rRow es n a R)∧(GT R a-> ∀b,b<n->B8j es a b=true->GT (rRow es n a R) b):=by
 have:=A4p (f:=A3Y es a) (P:=fun k S=>Rd es n R S∧(GT R a-> ∀b,b<k->B8j es a b=true->GT S b)) (z:=R) ⟨⟨hl,fun u h=>h⟩,fun _ b hb=>by omega⟩ n (by
  rintro i S hi ⟨⟨h1,h2⟩,h3⟩;refine ⟨⟨by rw [A69,h1],fun u hu=>(B45 (by omega)).2 (.inl (h2 u hu))⟩,fun ha b hb hab=> ?_⟩;rw [B45 (by omega)];by_cases e:b=i
  ·subst e; exact .inr ⟨rfl,h2 a ha,hab⟩
  ·exact .inl (h3 ha b (by omega) hab))
 exact this
def B0G {es:List E} {n:Nat} {R:List Bool} (hl:R.length=n):Rd es n R (A7R es n R)∧(∀a,a<n->GT R a-> ∀b,b<n->B8j es a b=true->GT (A7R es n R) b):=by
 have:=A4p (f:=fun R a=>rRow es n a R) (P:=fun k S=>Rd es n R S∧(∀a,a<k->GT R a-> ∀b,b<n->B8j es a b=true->GT S b)) (z:=R) ⟨⟨hl,fun u h=>h⟩,fun a ha=>by omega⟩ n (by
  rintro i S hi ⟨⟨h1,h2⟩,h3⟩;obtain ⟨⟨q1,q2⟩,q3⟩:=C2J (es:=es) (a:=i) h1;refine ⟨⟨q1,fun u hu=>q2 u (h2 u hu)⟩,fun a ha hR b hb hab=> ?_⟩;by_cases e:a=i
  ·subst e; exact q3 (h2 a hR) b hb hab
  ·exact q2 b (h3 a (by omega) hR b hb hab))
 exact this
def A9u (es:List E) (n:Nat) (R:List Bool):Prop:= ∀a,a<n->GT R a-> ∀b,b<n->B8j es a b=true->GT R b
def B96 {n a b:Nat} {R:List Bool} (hl:R.length=n) (hb:b<n) (ha:a<n) (h:A9u es n R):A3Y es a R b=R:=by
 unfold A3Y;by_cases hx:(R.getD a false&&B8j es a b)=true
 ·rw [if_pos hx];simp only [XV] at hx;have:=h a ha hx.1 b hb hx.2;apply Zq;intro i;by_cases e:b=i
  ·subst e;rw [QX (by omega),Qq (by omega)];unfold GT at this;rw [Qz,Qq (by omega)] at this;simpa using this.symm
  ·rw [Qy e]
 ·rw [if_neg hx]
def B7u {n:Nat} {R:List Bool} (hl:R.length=n) (h:A9u es n R):A7R es n R=R:=by
 have:=A4p (f:=fun R a=>rRow es n a R) (P:=fun k S=>S=R) (z:=R) rfl n (by
  rintro i S hi rfl
  have:=A4p (f:=A3Y es i) (P:=fun k T=>T=S) (z:=S) rfl n (by
   rintro j T hj rfl
   exact B96 hl hj hi h)
  exact this)
 exact this
def B46:List Bool->Nat
 | []=>0
 | b::R=>(if b then 1 else 0)+B46 R
def C4T (R:List Bool):B46 R≤R.length:=by
 induction R with
 | nil=>exact Qk _
 | cons b R ih=>simp only [B46,List.length_cons]; split<;>omega
def B3d: ∀{R S:List Bool},R.length=S.length->(∀u,GT R u->GT S u)->B46 R≤B46 S∧(B46 R=B46 S->R=S)
 | [],[],_,_=>⟨Qk _,fun _=>rfl⟩
 | [],_::_,h,_=>by simp at h
 | _::_,[],h,_=>by simp at h
 | x::R,y::S,h,hu=>by
  have h0:=hu 0;have ih:=B3d (R:=R) (S:=S) (by simpa using h) (fun u hx=>by have:=hu (u+1); unfold GT at*; simpa using this (by simpa using hx));unfold GT at h0;simp only [B46];cases x<;>cases y
  ·simp; exact ⟨ih.1,ih.2⟩
  ·simp; omega
  ·simp at h0
  ·simp;refine ⟨ih.1,fun h=>ih.2 (by omega)⟩
def B5O {g:G} (hc:checkG g=0) {a b:Nat}:B8j g.es a b=true↔(((a:Int),(b:Int))∈endsL g.es∨((b:Int),(a:Int))∈endsL g.es):=by
 obtain ⟨h1,h2,h3⟩:=A0h.1 hc;unfold B8j;rw [decide_eq_true_eq,C2E (fun e he=>by have:=h2 e he; unfold okE at this; omega)];have hmem: ∀e,e∈g.es->(e.a,e.b)∈endsL g.es:=fun e he=>by
  have:=h2 e he;unfold okE at this;exact Jy.2 ⟨e,he,Wq.2 ⟨by omega,rfl⟩⟩
 constructor
 ·rintro ⟨e,he,e1,e2⟩;have:=hmem e he;rw [e1,e2] at this;rcases Nat.le_total a b with h | h
  ·left; rwa [show min (a:Int) b=a by omega,show max (a:Int) b=b by omega] at this
  ·right; rwa [show min (a:Int) b=b by omega,show max (a:Int) b=a by omega] at this
 ·intro h;have key: ∀x y:Int,(x,y)∈endsL g.es-> ∃e,e∈g.es∧e.a=x∧e.b=y∧x≤y:=fun x y hxy=>by
   obtain ⟨e,he,hx⟩:=A3W hxy;have:=h2 e he;unfold okE at this;cases hx;exact ⟨e,he,rfl,rfl,by omega⟩
  rcases h with h | h
  ·obtain ⟨e,he,h4,h5,h6⟩:=key _ _ h;exact ⟨e,he,by omega,by omega⟩
  ·obtain ⟨e,he,h4,h5,h6⟩:=key _ _ h;exact ⟨e,he,by omega,by omega⟩
def A1V {g:G} {n:Nat} (hc:checkG g=0) (hn:g.n=n): ∀p,p∈endsL g.es->(0≤p.1∧p.1<n)∧(0≤p.2∧p.2<n):=fun p hp=>by
 have:=ends_range hc hp; omega
def B7v {g:G} {n v:Nat} (hc:checkG g=0) (hn:g.n=n) (hv:v<n) {u:Nat} (hu:u<n):GT (A9s g.es n v) u↔Conn (endsL g.es) v u:=by
 have hlen: ∀k,(A1w g.es n v k).length=n:=A54 g.es n v;have hsucc: ∀k,A1w g.es n v (k+1)=A7R g.es n (A1w g.es n v k):=fun k=>A0T _ _ _;have hz: ∀u,GT (A1w g.es n v 0) u↔u=v:=fun u=>by
  show GT ((List.replicate n false).set v true) u↔u=v;rw [C3Y (by simpa using hv)];constructor
  ·rintro (h | h)
   ·exact h
   ·exfalso;have hl:=C4S h;unfold GT at h;rw [Qz,Qq hl,List.getElem_replicate] at h;simp at h
  ·exact .inl
 constructor
 ·-- sound
  have hstep: ∀(R:List Bool) (a b:Nat),R.length=n->b<n->(∀u,GT R u->Conn (endsL g.es) v u)-> ∀u,GT (A3Y g.es a R b) u->Conn (endsL g.es) v u:=fun R a b hl hb h u hu=>by
   rw [B45 (by omega)] at hu;rcases hu with hu | ⟨rfl,ha,hab⟩
   ·exact h u hu
   ·exact .step (h a ha) ((B5O hc).1 hab)
  have hall: ∀k,∀u,GT (A1w g.es n v k) u->Conn (endsL g.es) v u:=fun k=>by
   induction k with
   | zero=>intro u hu; rw [(hz u).1 hu]; exact .refl
   | succ k ih=>
    rw [hsucc]
    have:=A4p (f:=fun R a=>rRow g.es n a R) (P:=fun _ S=>S.length=n∧ ∀u,GT S u->Conn (endsL g.es) v u) (z:=A1w g.es n v k) ⟨hlen k,ih⟩ n (by
     rintro i S hi ⟨h1,h2⟩
     have:=A4p (f:=A3Y g.es i) (P:=fun _ S=>S.length=n∧ ∀u,GT S u->Conn (endsL g.es) v u) (z:=S) ⟨h1,h2⟩ n (by
      rintro j T hj ⟨h3,h4⟩
      exact ⟨by rw [A69,h3],hstep T i j h3 hj h4⟩)
     exact this)
    exact this.2
  exact hall n u
 ·-- complete
  have hgrow: ∀k,A9u g.es n (A1w g.es n v k)∨k+1≤B46 (A1w g.es n v k):=fun k=>by
   induction k with
   | zero=>
    right;have h1:GT (A1w g.es n v 0) v:=(hz v).2 rfl;by_cases h0:B46 (A1w g.es n v 0)=0
    ·exfalso;have key: ∀R:List Bool,B46 R=0-> ∀u,¬GT R u:=by
      intro R
      induction R with
      | nil=>intro _ u h; exact absurd (C4S h) (by simp)
      | cons b R ih=>
       intro h u hu;simp only [B46] at h;have hb:b=false:=by cases b<;>simp at h ⊢
       subst hb;cases u with
       | zero=>unfold GT at hu; simp at hu
       | succ u=>exact ih (by simpa using h) u (by unfold GT at*; simpa using hu)
     exact key _ h0 _ h1
    ·omega
   | succ k ih=>
    obtain ⟨⟨q1,q2⟩,q3⟩:=B0G (es:=g.es) (hlen k);rw [hsucc];by_cases hcl:A9u g.es n (A1w g.es n v k)
    ·left; rw [B7u (hlen k) hcl]; exact hcl
    ·right;have hk:k+1≤B46 (A1w g.es n v k):=ih.resolve_left hcl;obtain ⟨c1,c2⟩:=B3d (by rw [hlen k,q1]) q2;by_cases e:B46 (A1w g.es n v k)=B46 (A7R g.es n (A1w g.es n v k))
     ·exfalso;refine hcl fun a ha hR b hb hab=> ?_;have:=q3 a ha hR b hb hab;rwa [<-c2 e] at this
     ·omega
  have hcl:A9u g.es n (A1w g.es n v n):=by
   rcases hgrow n with h | h
   ·exact h
   ·have:=C4T (A1w g.es n v n); rw [hlen n] at this; omega
  have hvT: ∀k,GT (A1w g.es n v k) v:=fun k=>by
   induction k with
   | zero=>exact (hz v).2 rfl
   | succ k ih=>rw [hsucc]; exact (B0G (es:=g.es) (hlen k)).1.up v ih
  intro hcn;have key: ∀w,Conn (endsL g.es) v w->GT (A1w g.es n v n) w:=by
   intro w hw
   induction hw with
   | refl=>exact hvT n
   | step _ hh ih=>
    rename_i b c _;have hb:b<n∧c<n:=by
     rcases hh with hh | hh<;>(have:=A1V hc hn _ hh; simp only at this; omega)
    exact hcl b hb.1 ih c hb.2 ((B5O hc).2 hh)
  exact key u hcn
def C4U {R S:List Bool} {n:Nat} (hS:S.length=n) (u:Nat) (hu:u<n):GT (orK R S n) u↔GT S u∨GT R u:=by
 have:=A4p (f:=A9t R) (P:=fun k T=>T.length=n∧ ∀u,u<n->(GT T u↔GT S u∨(u<k∧GT R u))) (z:=S) ⟨hS,fun u _=>by simp⟩ n (by
  rintro i T hi ⟨h1,h2⟩;refine ⟨by rw [B0F,h1],fun u hu=> ?_⟩;unfold A9t;by_cases e:i=u
  ·subst e;unfold GT at h2 ⊢;have h3:=h2 i hu;rw [Qz,QX (by omega),Option.getD_some,YV,h3];constructor
   ·rintro ((h | h) | h)
    ·exact .inl h
    ·omega
    ·exact .inr ⟨by omega,h⟩
   ·rintro (h | ⟨_,h⟩)
    ·exact .inl (.inl h)
    ·exact .inr h
  ·have h3:=h2 u hu;unfold GT at h3 ⊢;rw [Qz,Qy e,<-Qz,h3];constructor
   ·rintro (h | ⟨h,h'⟩)
    ·exact .inl h
    ·exact .inr ⟨by omega,h'⟩
   ·rintro (h | ⟨h,h'⟩)
    ·exact .inl h
    ·exact .inr ⟨by omega,h'⟩)
 have h3:=this.2 u hu;unfold orK;rw [h3];constructor
 ·rintro (h | ⟨_,h⟩)
  ·exact .inl h
  ·exact .inr h
 ·rintro (h | h)
  ·exact .inl h
  ·exact .inr ⟨hu,h⟩
def B97 {g:G} {n:Nat} (hc:checkG g=0) (hn:g.n=n): ∀v,v≤n-> ∀u,u<n->(GT (A6A g.es n v) u↔ ∃w,w<v∧Conn (endsL g.es) w u):=by
 intro v
 induction v with
 | zero=>
  intro _ u hu;constructor
  ·intro h;exfalso;have hl:=C4S h;unfold GT at h;rw [Qz,Qq hl] at h;simp [A6A] at h
  ·rintro ⟨w,hw,_⟩; omega
 | succ v ih=>
  intro hv u hu;have ih:=ih (by omega);have hS1:A6A g.es n (v+1)=seenStep g.es n (A6A g.es n v) v:=A0T _ _ _;rw [hS1];unfold seenStep;by_cases h:(A6A g.es n v).getD v false=true
  ·rw [if_pos h,ih u hu];obtain ⟨w,hw,hcw⟩:=(ih v (by omega)).1 h;constructor
   ·rintro ⟨x,hx,h2⟩; exact ⟨x,by omega,h2⟩
   ·rintro ⟨x,hx,h2⟩;by_cases e:x=v
    ·subst e; exact ⟨w,hw,hcw.trans h2⟩
    ·exact ⟨x,by omega,h2⟩
  ·rw [if_neg h,C4U (B3c g.es n v) u hu,ih u hu,B7v hc hn (by omega) hu];constructor
   ·rintro (⟨x,hx,h2⟩ | h2)
    ·exact ⟨x,by omega,h2⟩
    ·exact ⟨v,by omega,h2⟩
   ·rintro ⟨x,hx,h2⟩;by_cases e:x=v
    ·subst e; exact .inr h2
    ·exact .inl ⟨x,by omega,h2⟩
def A6a {g:G} {n:Nat} (hc:checkG g=0) (hn:g.n=n): ∀v,v≤n->(A2o g.es n v:Int)=rootsN (genS (endsL g.es)).1 v:=by
 have hn12:=(A0h.1 hc).1;have hr:B94 (endsL g.es):=fun p hp=>by have:=A1V hc hn p hp; omega
 intro v
 induction v with
 | zero=>intro _; rfl
 | succ v ih=>
  intro hv;have ih:=ih (by omega);have hsp:=B97 hc hn v (by omega) v (by omega);have hrt:=A3Z hr (v:=v) (by omega);simp only [A2o,rootsN];unfold GT at hsp;by_cases h:(A6A g.es n v).getD v false=true
  ·rw [if_pos h,if_neg (fun e=>hrt.1 e (hsp.1 h))]; omega
  ·rw [if_neg h,if_pos (hrt.2 fun e=>h (hsp.2 e))]; omega
def C2K {g:G} {n:Nat} (hc:checkG g=0) (hn:g.n=n):C1L (endsL g.es)=(endsL g.es).length-n+A2o g.es n n:=by
 have hn12:=(A0h.1 hc).1;have hr:B94 (endsL g.es):=fun p hp=>by have:=A1V hc hn p hp; omega
 have h:=(uf _ hr).cnt;have hp:=A6a hc hn n (Qk _);have hhi: ∀k,n+k≤12->rootsN (genS (endsL g.es)).1 (n+k)=rootsN (genS (endsL g.es)).1 n+k:=fun k=>by
  induction k with
  | zero=>intro _; simp
  | succ k ih=>
   intro hk;have e:(genS (endsL g.es)).1[n+k]? =some (n+k):=(A3Z hr (by omega)).2 fun ⟨u,hu,hcu⟩=>by
    have:=hcu.symm.bound (A1V hc hn) (by omega); omega
   show rootsN _ (n+k+1)=_;simp only [rootsN,ih (by omega),if_pos e]; omega
 have h12:=hhi (12-n) (by omega);rw [show n+(12-n)=12 by omega] at h12;unfold C1L;omega
def A0B (F:List Nat) (v:Nat):List Nat:=(List.range v).filter fun u=>decide (rootF F 12 u=u)
def A8d (F:List Nat) (v r:Nat):List Int:=((List.range v).filter fun u=>decide (rootF F 12 u=r)).map fun u:Nat=>(u:Int)
def A1f (F:List Nat) (v:Nat):List (List Int):=(A0B F v).map (A8d F v)
def A5c (F:List Nat) (v:Nat):(A0B F v).Nodup:=List.Nodup.sublist List.filter_sublist Qx1
def A55 {v u:Nat}:u∈A0B F v↔u<v∧rootF F 12 u=u:=by simp [A0B]
def A4q (F:List Nat) (v:Nat):A0B F (v+1)=if rootF F 12 v=v then A0B F v++[v] else A0B F v:=by
 unfold A0B;rw [WQ,JV];by_cases h:rootF F 12 v=v<;>simp [h]
def B7w (F:List Nat) (v:Nat):(A0B F v).length≤v:=by
 unfold A0B;exact Yw (WW _ _) (by simp)
def A56 (F:List Nat) (v r:Nat):A8d F (v+1) r=if rootF F 12 v=r then A8d F v r++[(v:Int)] else A8d F v r:=by
 unfold A8d;rw [WQ,JV];by_cases h:rootF F 12 v=r<;>simp [h]
def B98 (hF:FOk F) {v:Nat} (hv:v<12) (h:rootF F 12 v=v):A1f F (v+1)=A1f F v++[[(v:Int)]]:=by
 unfold A1f;rw [A4q,if_pos h,Jz];congr 1
 ·refine Jw fun r hr=> ?_;have:=(A55.1 hr).1;rw [A56,if_neg (by omega)]
 ·simp only [XY,ZQ];rw [A56,if_pos h];have:A8d F v v=[]:=by
   unfold A8d;rw [List.map_eq_nil_iff,List.filter_eq_nil_iff];intro u hu;have hu':=Xk.1 hu;have:=A24 hF (n:=12) (v:=u) (by omega);simp only [decide_eq_true_eq]; omega
  rw [this]; rfl
def B99 {v k:Nat} (h:rootF F 12 v≠v) {r:Nat} (hk:(A0B F v)[k]? =some r) (hr:rootF F 12 v=r):(A0B F (v+1))=A0B F v∧(A1f F v)[k]? =some (A8d F v r)∧A1f F (v+1)=(A1f F v).set k (A8d F v r++[(v:Int)]):=by
 have e1:A0B F (v+1)=A0B F v:=by rw [A4q,if_neg h]
 refine ⟨e1,by simp [A1f,hk],?_⟩;unfold A1f;rw [e1];apply Zq;intro i;have hkl:=(Qx.1 hk).1;by_cases e:k=i
 ·subst e;rw [QX (by simpa using hkl),QQ,hk];simp only [Option.map_some];rw [A56,if_pos hr]
 ·rw [Qy e,QQ,QQ];cases hi:(A0B F v)[i]? with
  | none=>rfl
  | some s=>
   simp only [Option.map_some];rw [A56,if_neg];intro hs;obtain ⟨hil,e2⟩:=Qx.1 hi;obtain ⟨_,e3⟩:=Qx.1 hk;have hnd:=A5c F v;rw [List.Nodup,ZJ] at hnd;have e4:(A0B F v)[k]=(A0B F v)[i]:=by rw [e2,e3,<-hr,hs]
   rcases Nat.lt_or_gt_of_ne e with h | h
   ·exact hnd k i hkl hil h e4
   ·exact hnd i k hil hkl h e4.symm
def mR:Nat->List Nat->List (MKey×MV)
 | _,[]=>[]
 | b,r::l=>(.int r,.c (.int .i64 (b:Int)))::mR (b+1) l
def B9A: ∀(b:Nat) (l:List Nat) (r:Nat),r∉l->mIdx (mR b l) (.int r)=none
 | b,[],r,_=>rfl
 | b,x::l,r,h=>by
  have h1: ¬x=r:=fun e=>h (by simp [e]);have h2:=B9A (b+1) l r (fun hm=>h (by simp [hm]));unfold mIdx at h2 ⊢;simp only [mR,JJ,h2,Option.map_none];rw [if_neg];intro e;have:(MKey.int (x:Int))= .int r:=by simpa using e
  injection this with e;exact h1 (by omega)
def C6D: ∀(b:Nat) (l:List Nat) (k r:Nat),l.Nodup->l[k]? =some r->mIdx (mR b l) (.int r)=some k∧(mR b l)[k]? =some (.int r,.c (.int .i64 ((b+k:Nat):Int)))
 | b,[],k,r,_,h=>by simp at h
 | b,x::l,0,r,_,h=>by
  simp at h; subst h;simp [mIdx,mR,JJ]
 | b,x::l,k+1,r,hn,h=>by
  rw [Qq8] at hn;have h':l[k]? =some r:=by simpa using h
  obtain ⟨q1,q2⟩:=C6D (b+1) l k r hn.2 h';have h1: ¬x=r:=fun e=>hn.1 (by rw [e]; exact Qv h');constructor
  ·unfold mIdx at q1 ⊢;simp only [mR,JJ,q1,Option.map_some];rw [if_neg];intro e;have:(MKey.int (x:Int))= .int r:=by simpa using e
   injection this with e;exact h1 (by omega)
  ·simp only [mR,List.getElem?_cons_succ,q2];rw [show b+1+k=b+(k+1) by omega]
def C3Z {l:List Nat} {k r:Nat} (hn:l.Nodup) (h:l[k]? =some r) (z:MV):A7g (mR 0 l) (.int r) z= .c (.int .i64 (k:Int)):=by
 obtain ⟨q1,q2⟩:=C6D 0 l k r hn h;unfold A7g;simp [q1,q2]
def B9B: ∀(b:Nat) (l:List Nat) (r:Nat),mR b (l++[r])=mR b l++[(.int r,.c (.int .i64 ((b+l.length:Nat):Int)))]
 | b,[],r=>by simp [mR]
 | b,x::l,r=>by
  have:=B9B (b+1) l r;simp only [List.cons_append,mR,this,List.length_cons];rw [show b+1+l.length=b+(l.length+1) by omega]
def C6E {l:List Nat} {r:Nat} (h:r∉l):B3X (mR 0 l) (.int r) (.c (.int .i64 (l.length:Int)))=mR 0 (l++[r]):=by
 unfold B3X;rw [B9A 0 l r h,B9B];simp
def A6B: ∀{b:Nat} {l:List Nat},∀e,e∈mR b l->KShape.ok .int e.1=true
 | b,[],e,h=>by simp [mR] at h
 | b,x::l,e,h=>by
  rcases QV.1 h with rfl | h
  ·rfl
  ·exact A6B e h
def A1s {m:Nat}:Go.Sp.cellsIn m (fC F):=A1g fun _=>Qv3
def tF (F:List Nat):TVal:= .agg (fT F)
def B7x (F:List Nat):(fT F).map A0v=fC F:=by simp [fT,fC,A0v]
def A3C (Z F:List Nat) (h:Z.length=F.length):setMany (fC Z) 0 (fC F)=fC F:=by
 apply Zq;intro i;rw [A2q _ _ _ _ (by simp [A0W,h])];by_cases hi:i<F.length
 ·rw [if_pos ⟨Xj _,by rw [A0W]; omega⟩,Nat.sub_zero]
 ·rw [if_neg (by rw [A0W]; omega),Xq (by rw [A0W]; omega),Xq (by rw [A0W]; omega)]
def A4r: ∀F:List Nat,A4k (fC F)=true
 | []=>rfl
 | _::F=>A4r F
def A6C (H:List Blk): ∀F:List Nat,(fC F).mapM (A0d H)=some (fT F)
 | []=>rfl
 | x::F=>by
  have ih:=A6C H F;simp only [fC,fT,XY,JY] at ih ⊢;rw [ih]; rfl
def B9C:ACall Tryz.prog 211 [] (tF (List.range 12)):=by
 refine ACall.of_body Tryz.func211 rfl (by kernel_rfl) ?_;simp only [entry,Tryz.ntmps211];refine zU ?_;refine zR Qv5 Qv5 Qv5 ?_;refine AWp.loopS (α:=Nat) 11 (fun i=>[(0,.c (.ptr 0 0)),(1,.c (.ptr 1 0)),(3,.c (.int .i64 (i:Int)))]) (fun i=>[.box (fC (List.replicate 12 0)),.box (fC (A7w i))]) (fun i=>i≤12) (fun i=>12-i) (0) (hk:=Weak.headL 2 11 [0,1,3] (zWs @A1s)) (h0:=?_) (round:=fun i hI=>?_)
 ·exact Xj _
 ·by_cases hlt:i<12
  ·have hset:=A9p hlt;have hlen:=A9q hI;generalize A7w i=F at*;refine zR (zc @A0W (zc @hlen (zc @A9o (zc @A5Z (zc @hset Qv5))))) Qv5 Qv5 ?_;refine ⟨i+1,Weak.headN 2 11 [0,1,3] (zWs @A1s),?_,?_⟩
   ·exact hlt
   ·omega
  ·have ei:i=12:=by omega
   subst ei;rw [B1D];have hl:(List.range 12).length=12:=Vy;generalize List.range 12=F at*;have ht:(fC F).take 12=fC F:=Zw (by rw [A0W,hl]; exact Qk _);have hs:=A3C (List.replicate 12 0) F (by simp [hl]);have hlr:(List.replicate 12 0:List Nat).length=12:=by simp
   generalize List.replicate 12 0=Z at*;refine zR (zc @A0W (zc @hl (zc @hlr (zc @ht (zc @hs (zc @A4r Qv5)))))) Qv5 Qv5 ?_;have hm:=A6C [Blk.box (fC F),Blk.box (fC F)] F;simp [A0s,A0r,Blk.cells,ty,Tryz.results211,A0o,A0p,toT,A0d,A0b,A0c,A0a,hm,hl,ht,A0W,tF]
def C2L (F:List Nat) (h:FOk F) (v:Nat) (hv:v<12):ACall Tryz.prog 213 [.t (.rptr (fT F)),A0j v] (A0j (rootF F 12 v)):=by
 have hF:=h.len;refine ACall.of_body Tryz.func213 rfl (by kernel_rfl) ?_;simp only [entry,Tryz.ntmps213,A0j];refine zU ?_;refine zR Qv5 Qv5 Qv5 ?_;refine AWp.loopS (α:=Nat) 18 (fun u=>[(0,.c (.rptr (fT F))),(1,.c (.int .i64 (u:Int)))]) (fun u=>[]) (fun u=>u<12∧rootF F 12 v=rootF F 12 u) (fun u=>u) (v) (hk:=Weak.headL 0 18 [0,1] (zWs @A1s)) (h0:=?_) (round:=fun u hI=>?_)
 ·exact ⟨hv,rfl⟩
 ·obtain ⟨hu,hx⟩:=hI;have hul:u<F.length:=by omega
  have e1:=B4z hul;have e2:=A2U h hul;have e3:=h.le u hul;refine zM Qv5 (zc @e1 Qv5) Qv5 Qv5 Qv5 (zc (ed fun hp hpc=>?_) (ed fun hp hpc=>?_))
  ·rw [if_neg (by omega)] at e2;refine ⟨F[u],Weak.headN 0 18 [0,1] (zWs @A1s),?_,?_⟩
   ·exact ⟨by omega,by rw [hx,e2]⟩
   ·omega
  ·rw [if_pos (by omega)] at e2;have e:rootF F 12 v=u:=by rw [hx,e2]
   simp [A0s,A0r,Blk.cells,ty,Tryz.results213,A0o,A0p,toT,A0d,A0b,A0c,A0a,A0j,e]
def A7x (F:List Nat) (h:FOk F) (v:Nat) (hv:v<12) {H:List Blk} {id:Nat} (hb:H[id]? =some (.box (fC F))):
  ACallH Tryz.prog 213 H [.c (.ptr id 0),.c (.int .i64 (v:Int))] H (.c (.int .i64 (rootF F 12 v:Nat))):=
 ACall.hb (C2L F h v hv) (by simp [toT,A0d,A0b,hb,Blk.cells,B1C,A0a,A0j]) rfl
def C2M (F:List Nat) (h:FOk F) (a b:Nat) (ha:a<12) (hb:b<12) {H:List Blk} {id:Nat} (hid:H[id]? =some (.box (fC F))):
  ACallH Tryz.prog 212 H [.c (.ptr id 0),.c (.int .i64 (a:Int)),.c (.int .i64 (b:Int))] (H.set id (.box (fC (F.set (max (rootF F 12 a) (rootF F 12 b)) (min (rootF F 12 a) (rootF F 12 b)))))) (.tup []):=by
 have rx:=A7x F h a ha hid;have ry:=A7x F h b hb hid;have la:=A24 h (n:=12) ha;have lb:=A24 h (n:=12) hb;generalize rootF F 12 a=x at*;generalize rootF F 12 b=y at*;have hmax:max (x:Int) (y:Int)=((max x y:Nat):Int):=by omega
 have hmin:min (x:Int) (y:Int)=((min x y:Nat):Int):=by omega
 refine ACallH.of_body Tryz.func212 rfl (by kernel_rfl) ?_;simp only [entry,Tryz.ntmps212,List.length_cons,List.length_nil,Nat.reduceAdd,Nat.reduceSub,List.replicate_succ,List.replicate_zero,List.cons_append,List.nil_append];refine zJ Qv5 (zc @A0W (zc @A9o (zc @A5Z (zc @hmax (zc @hmin (zc @h.len (zc @hid Qv5))))))) Qv5 (zc rx (zc ry Qv5)) Qv5 ?_;simp [A4Q,A2f,A0o,A2e,Tryz.results212]
def A2a (es:List E):List (Int×Int):=es.map fun e=>(e.a,e.b)
def B47 {g:G} (hc:checkG g=0) {p:Int×Int} (h:p∈A2a g.es):(0≤p.1∧p.1<g.n)∧(0≤p.2∧p.2<g.n):=by
 obtain ⟨e,he,rfl⟩:=QY.1 h;have:=(A0h.1 hc).2.1 e he;unfold okE at this;simp only; omega
def A7y {g:G} (hc:checkG g=0):B94 (A2a g.es):=fun p hp=>by
 have:=B47 hc hp;have:=(A0h.1 hc).1;omega
def A2A:List Nat:=List.replicate 12 0
def B7y:A2A.length=12:=by simp [A2A]
def B7z (g:G) (hc:checkG g=0) (hl:g.es.length<2^30):ACall Tryz.prog 191 [tG g] (tF (genS (A2a g.es)).1):=by
 have h12:=A7y hc;obtain ⟨n,es⟩:=g;simp only at h12 hl ⊢;have hg:=B9C;have hr12:(List.range 12).length=12:=Vy;have h0:(genS ((A2a es).take 0)).1=List.range 12:=rfl;refine ACall.of_body Tryz.func191 rfl (by kernel_rfl) ?_;simp only [entry,Tryz.ntmps191,tG];refine zU ?_;generalize hR:List.range 12=R at*;have hof:(fT R).map A0v=fC R:=B7x R;have hst:=A3C A2A R (by rw [hr12]; rfl);have hlz:A2A.length=12:=B7y;have hz:fC A2A=[.int .i64 0,.int .i64 0,.int .i64 0,.int .i64 0,.int .i64 0,.int .i64 0,.int .i64 0,.int .i64 0,.int .i64 0,.int .i64 0,.int .i64 0,.int .i64 0]:=rfl;rw [hz] at hst;unfold tF at hg;refine zR (zc @A00 (zc @A0W (zc @A4r (zc @hof (zc @hst (zc @hr12 Qv5)))))) (zc hg Qv5) Qv5 ?_;rw [<-h0];refine AWp.loopS (α:=Nat) 21 (fun i=>[(2,.c (.ptr 1 0)),(3,.c (.ptr 2 0)),(8,.c (.slice (A0f es) .none)),(9,.c (.int .i64 (es.length:Int))),(10,.c (.int .i64 (i:Int)))]) (fun i=>[.box [.int .i64 n,.slice (A0f es) .none],.box (fC A2A),.box (fC (genS ((A2a es).take i)).1)]) (fun i=>i≤es.length) (fun i=>es.length-i) (0) (hk:=Weak.headL 3 21 [2,3,8,9,10] (zWs @A1s)) (h0:=?_) (round:=fun i hI=>?_)
 ·exact Xj _
 ·have hi:i≤es.length:=hI;clear hI;have hok:=B9v (l:=(A2a es).take i) fun q hq=>h12 q (JZ hq);by_cases hlt:i<es.length
  ·have hltI:(i:Int)<es.length:=by omega
   have e0:=Qq hlt;have e1:=A2j e0;have hp:(A2a es)[i]? =some (es[i].a,es[i].b):=by simp [A2a,e0]
   have hsn:=take_snoc hp;have hnx:=A9n ((A2a es).take i) (es[i].a,es[i].b);rw [<-hsn] at hnx;have hrng:=h12 _ (Qv hp);generalize es[i]=x at*;obtain ⟨xa,xb,xm⟩:=x;simp only at hrng hnx e1;obtain ⟨a,rfl⟩:=Zx hrng.1.1;obtain ⟨b,rfl⟩:=Zx hrng.2.1;have ha:a<12:=by omega
   have hb:b<12:=by omega
   have hF:=hok.1;simp only [A1G,Int.toNat_natCast] at hnx;have hn1:=congrArg Prod.fst hnx;simp only at hn1;generalize (genS ((A2a es).take i)).1=F at*;have hJ:=C2M F hF a b ha hb (H:=[.box [.int .i64 n,.slice (A0f es) .none],.box (fC A2A),.box (fC F),.box [.int .i64 (a:Int),.int .i64 (b:Int),.int .i64 xm]]) (id:=2) rfl;rw [<-hn1] at hJ;simp only [List.set_cons_succ,List.set_cons_zero] at hJ;refine zJ Qv5 (zc @hltI (zc @e1 (zc @A00 Qv5))) Qv5 (zc hJ Qv5) Qv5 ?_;refine ⟨i+1,Weak.headN 3 21 [2,3,8,9,10] (zWs @A1s),?_,?_⟩
   ·exact hlt
   ·omega
  ·have ei:i=es.length:=by omega
   subst ei;have hnl: ¬((es.length:Int)<es.length):=by omega
   have htk:(A2a es).take es.length=A2a es:=Zw (by simp [A2a]);rw [htk];rw [htk] at hok;have hlF:=hok.1.len;generalize (genS (A2a es)).1=F at*;have ht:(fC F).take 12=fC F:=Zw (by rw [A0W,hlF]; exact Qk _);have hs:=A3C A2A F (by rw [hlF]; rfl);generalize A2A=Z at*;refine zR (zc @hnl (zc @A0W (zc @hlF (zc @hlz (zc @ht (zc @hs (zc @A4r Qv5))))))) Qv5 Qv5 ?_;have hm:=A6C [Blk.box [.int .i64 n,.slice (A0f es) .none],Blk.box (fC F),Blk.box (fC F)] F;simp [A0s,A0r,Blk.cells,ty,Tryz.results191,A0o,A0p,toT,A0d,A0b,A0c,A0a,hm,hlF,ht,A0W,tF]
def connB (g:G):Bool:=decide (A2o g.es g.n.toNat g.n.toNat=1)
def A0m (g:G):Int:=if checkG g≠0 then checkG g else if connB g=true then 0 else 13
def ribE (r:R):Int:=if A0m r.g≠0 then A0m r.g else if (r.ar.length:Int)≠r.n then 8 else A9Y (endsL r.es) (2*(endsL r.es).length) 0 r.ar
structure ROk (r:R):Prop where
 c:checkG r.g=0
 conn:connB r.g=true
 len:(r.ar.length:Int)=r.n
 l: ∀(i:Nat) l,r.ar[i]? =some l->LOk l (ownL (endsL r.es) (i:Int) (2*(endsL r.es).length))
def B9D {r:R} (h:ribE r=0):ROk r:=by
 unfold ribE A0m at h;by_cases h1:checkG r.g≠0
 ·simp only [if_pos h1] at h; omega
 ·rw [if_neg h1] at h;by_cases h2:connB r.g=true
  ·rw [if_pos h2] at h;by_cases h3:(r.ar.length:Int)≠r.n
   ·rw [if_neg (by omega),if_pos h3] at h; omega
   ·rw [if_neg (by omega),if_neg h3] at h;exact ⟨by omega,h2,by omega,fun i l hl=>by have:=B0B h i l hl; rwa [XX] at this⟩
  ·rw [if_neg h2] at h; omega
section
variable {r:R}
def A1H (hc:checkG r.g=0) {h:Nat} (hh:h<2*(endsL r.es).length):0≤atL (endsL r.es) h∧atL (endsL r.es) h<r.n:=by
 have hm:h / 2<(endsL r.es).length:=by omega
 have he:=ends_range hc (Xw (l:=endsL r.g.es) hm);unfold atL;rw [Qz,Qq hm];simp only [Option.getD_some];split
 ·exact he.1
 ·exact he.2
def ROk.row (hr:ROk r) {h:Nat} (hh:h<2*(endsL r.es).length): ∃l,r.ar[(atL (endsL r.es) h).toNat]? =some l∧r.ar.getD (atL (endsL r.es) h).toNat []=l∧LOk l (ownL (endsL r.es) (atL (endsL r.es) h) (2*(endsL r.es).length))∧(h:Int)∈l:=by
 have ha:=A1H hr.c hh;have hlt:(atL (endsL r.es) h).toNat<r.ar.length:=by have:=hr.len; omega
 have e:=Qq hlt;have hl:=hr.l _ _ e;rw [show (((atL (endsL r.es) h).toNat:Nat):Int)=atL (endsL r.es) h by omega] at hl;refine ⟨_,e,by rw [Qz,e]; rfl,hl,hl.sup _ (A1S.2 ⟨by omega,by omega,by simp⟩)⟩
def ROk.next (hr:ROk r) {h:Nat} (hh:h<2*(endsL r.es).length):0≤nextR (endsL r.es) r.ar h∧nextR (endsL r.es) r.ar h<(2*(endsL r.es).length:Nat)∧atL (endsL r.es) (nextR (endsL r.es) r.ar h).toNat=atL (endsL r.es) h:=by
 obtain ⟨l,h1,h2,h3,h4⟩:=hr.row hh;unfold nextR;rw [h2];exact A1S.1 (h3.sub _ (B9q h4))
def ROk.next_inj (hr:ROk r) {h k:Nat} (hh:h<2*(endsL r.es).length) (hk:k<2*(endsL r.es).length) (e:nextR (endsL r.es) r.ar h=nextR (endsL r.es) r.ar k):h=k:=by
 have a1:=(hr.next hh).2.2;have a2:=(hr.next hk).2.2;rw [e] at a1;have a3:=a1.symm.trans a2;obtain ⟨l,h1,h2,h3,h4⟩:=hr.row hh;obtain ⟨l',h1',h2',h3',h4'⟩:=hr.row hk;rw [a3,h1'] at h1;cases h1;unfold nextR at e;rw [h2,h2'] at e;have:=B9r h3.nd h4 h4' e;omega
end
end Go.Proofs.YtdbdfkohpjefjaaGreat
