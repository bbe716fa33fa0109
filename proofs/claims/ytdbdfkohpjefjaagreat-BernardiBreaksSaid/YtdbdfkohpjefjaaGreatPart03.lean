/- A part of the proof. -/
import Derived.Test.YtdbdfkohpjefjaaGreatLayerC
set_option linter.all false
set_option maxHeartbeats 4000000
set_option maxRecDepth 100000
namespace Go.Proofs.YtdbdfkohpjefjaaGreat
structure PermN (N:Nat) (f:Nat->Nat):Prop where
 lt: ∀x,x<N->f x<N
 inj: ∀x y,x<N->y<N->f x=f y->x=y
def it (f:Nat->Nat):Nat->Nat->Nat
 | 0,x=>x
 | k+1,x=>f (it f k x)
def A7P (f:Nat->Nat) (a b x:Nat):it f (a+b) x=it f a (it f b x):=by
 induction a with
 | zero=>rw [Nat.zero_add]; rfl
 | succ a ih=>rw [show a+1+b=(a+b)+1 by omega]; simp only [it,ih]
variable {f:Nat->Nat}
section
variable {N:Nat} {f:Nat->Nat}
def PermN.it_lt (h:PermN N f) {x:Nat} (hx:x<N) (k:Nat):it f k x<N:=by
 induction k with
 | zero=>exact hx
 | succ k ih=>exact h.lt _ ih
def PermN.it_inj (h:PermN N f) {x y:Nat} (hx:x<N) (hy:y<N) (k:Nat) (e:it f k x=it f k y):x=y:=by
 induction k with
 | zero=>exact e
 | succ k ih=>exact ih (h.inj _ _ (h.it_lt hx k) (h.it_lt hy k) e)
def PermN.period (h:PermN N f) {x:Nat} (hx:x<N): ∃p,1≤p∧p≤N∧it f p x=x:=by
 apply Classical.byContradiction;intro hc;have hne: ∀i j:Nat,i<j->j≤N->it f i x≠it f j x:=fun i j hij hj e=>by
  refine hc ⟨j-i,by omega,by omega,?_⟩;have e2:it f j x=it f i (it f (j-i) x):=by rw [<-A7P]; congr 1; omega
  rw [e2] at e;exact (h.it_inj hx (h.it_lt hx _) i e).symm
 have hnd:((List.range (N+1)).map fun k=>it f k x).Nodup:=by
  rw [List.Nodup,List.pairwise_map];exact List.pairwise_lt_range.imp_of_mem fun {a b} ha hb hab=>hne a b hab (by have:=List.mem_range.1 hb; omega)
 have hle:=List.Nodup.length_le_of_subset hnd (l₂:=List.range N) (fun y hy=>by
  obtain ⟨k,_,rfl⟩:=List.mem_map.1 hy
  exact List.mem_range.2 (h.it_lt hx k))
 simp at hle;omega
def B8V (f:Nat->Nat) (h:Nat):Nat->Nat->List Nat
 | 0,_=>[]
 | n+1,x=>if x=h then [] else x::B8V f h n (f x)
def C2w (f:Nat->Nat) (N h:Nat):List Nat:=h::B8V f h N (f h)
def C2x (f:Nat->Nat) (h:Nat): ∀(n k p:Nat),k≤p->p≤k+n->it f p h=h->(∀i,k≤i->i<p->it f i h≠h)->B8V f h n (it f k h)=(List.range (p-k)).map fun i=>it f (k+i) h:=by
 intro n
 induction n with
 | zero=>
  intro k p h1 h2 _ _;rw [show p-k=0 by omega]; rfl
 | succ n ih=>
  intro k p h1 h2 h3 h4;by_cases e:k=p
  ·subst e;rw [Nat.sub_self];simp only [B8V,h3,if_true,List.range_zero,List.map_nil]
  ·have hk:=h4 k (Nat.le_refl _) (by omega);simp only [B8V,if_neg hk];have:=ih (k+1) p (by omega) (by omega) h3 fun i hi=>h4 i (by omega);have e1:f (it f k h)=it f (k+1) h:=rfl;rw [e1,this,show p-k=(p-(k+1))+1 by omega,List.range_succ_eq_map];simp only [List.map_cons,Nat.add_zero,List.map_map];congr 1;refine List.map_congr_left fun i _=> ?_;simp only [Function.comp];rw [show k+1+i=k+Nat.succ i by omega]
def B2T {h:Nat}: ∀p:Nat,1≤p->it f p h=h-> ∃q,1≤q∧q≤p∧it f q h=h∧ ∀i,1≤i->i<q->it f i h≠h:=by
 intro p
 induction p using Nat.strongRecOn with
 | _ p ih=>
  intro h1 h2;by_cases hx: ∃i,1≤i∧i<p∧it f i h=h
  ·obtain ⟨i,h3,h4,h5⟩:=hx;obtain ⟨q,q1,q2,q3⟩:=ih i h4 h3 h5;exact ⟨q,q1,by omega,q3⟩
  ·exact ⟨p,h1,Nat.le_refl _,h2,fun i h3 h4 h5=>hx ⟨i,h3,h4,h5⟩⟩
def B8W (hp:PermN N f) {h:Nat} (hh:h<N): ∃p,1≤p∧p≤N∧it f p h=h∧(∀i,1≤i->i<p->it f i h≠h)∧C2w f N h=(List.range p).map fun i=>it f i h:=by
 obtain ⟨p0,h1,h2,h3⟩:=hp.period hh;obtain ⟨p,q1,q2,q3,q4⟩:=B2T p0 h1 h3;refine ⟨p,q1,by omega,q3,q4,?_⟩;have:=C2x f h N 1 p q1 (by omega) q3 fun i hi=>q4 i hi;unfold C2w;have e1:f h=it f 1 h:=rfl;rw [e1,this];obtain ⟨m,rfl⟩: ∃m,p=m+1:=⟨p-1,by omega⟩;rw [Nat.add_sub_cancel,List.range_succ_eq_map];simp only [List.map_cons,List.map_map];congr 1;refine List.map_congr_left fun i _=> ?_;simp only [Function.comp];rw [show 1+i=Nat.succ i by omega]
def C3T {p h:Nat} (hp:1≤p) (e:it f p h=h) (i:Nat):it f i h=it f (i%p) h:=by
 have hm: ∀k,it f (k*p) h=h:=fun k=>by
  induction k with
  | zero=>rw [Nat.zero_mul]; rfl
  | succ k ih=>rw [Nat.succ_mul,A7P,e,ih]
 have:=Nat.div_add_mod i p
 calc it f i h=it f (i%p+(i / p)*p) h:=by rw [Nat.mul_comm,Nat.add_comm,this]
  _=it f (i%p) h:=by rw [A7P,hm]
def C7A (f:Nat->Nat) (N h:Nat):Bool:=(C2w f N h).all fun y=>decide (h≤y)
def C61 (f:Nat->Nat) (N k:Nat):List Nat:=(List.range k).filter (C7A f N)
def C3U (f:Nat->Nat) (N k:Nat):List (List Nat):=(C61 f N k).map (C2w f N)
def ofN (f:Nat->Nat) (N k x:Nat):Int:=
 match (C3U f N k).findIdx? (fun l=>decide (x∈l)) with
 | some i=>i
 | none=> -1
end
variable {N:Nat}
def B02 (h:PermN N f) {x:Nat} (hx:x<N): ∃p,1≤p∧p≤N∧it f p x=x∧ ∀i,1≤i->i<p->it f i x≠x:=by
 obtain ⟨p,a,b,c,d,_⟩:=B8W h hx;exact ⟨p,a,b,c,d⟩
structure Eqv (N:Nat) (R:Nat->Nat->Prop):Prop where
 refl: ∀x,x<N->R x x
 symm: ∀x y,x<N->y<N->R x y->R y x
 trans: ∀x y z,x<N->y<N->z<N->R x y->R y z->R x z
open Classical in
noncomputable def ncls (N:Nat) (R:Nat->Nat->Prop):Nat:=((List.range N).filter fun h=>decide (∀y,y<N->R h y->h≤y)).length
open Classical in
def A2v {N:Nat} {R S:Nat->Nat->Prop} (h: ∀x y,x<N->y<N->(R x y↔S x y)):ncls N R=ncls N S:=by
 unfold ncls;congr 1;refine List.filter_congr fun x hx=> ?_;have hx':=List.mem_range.1 hx;rw [decide_eq_decide];exact ⟨fun H y hy hr=>H y hy ((h x y hx' hy).2 hr),fun H y hy hr=>H y hy ((h x y hx' hy).1 hr)⟩
def A8n {P:Nat->Prop} {x:Nat} (hx:P x): ∃m,m≤x∧P m∧ ∀y,P y->m≤y:=by
 induction x using Nat.strongRecOn with
 | _ x ih=>
  by_cases h: ∃y,y<x∧P y
  ·obtain ⟨y,h1,h2⟩:=h;obtain ⟨m,q1,q2,q3⟩:=ih y h1 h2;exact ⟨m,by omega,q2,q3⟩
  ·exact ⟨x,Nat.le_refl _,hx,fun y hy=>Nat.le_of_not_lt fun hlt=>h ⟨y,hlt,hy⟩⟩
def A7Q {l:List Nat} {p q:Nat->Bool} {m:Nat} (hn:l.Nodup) (hm:m∈l) (hp:p m=true) (hq: ∀x,x∈l->q x=(p x&&decide (x≠m))):(l.filter q).length+1=(l.filter p).length:=by
 induction l with
 | nil=>cases hm
 | cons a l ih=>
  obtain ⟨hna,hnl⟩:=List.nodup_cons.1 hn;have hqa:=hq a (by simp);by_cases e:a=m
  ·subst e;have e1:q a=false:=by rw [hqa]; simp
   have e2:l.filter q=l.filter p:=List.filter_congr fun x hx=>by
    rw [hq x (by simp [hx])];have:x≠a:=fun e=>hna (e▸hx);simp [this]
   rw [List.filter_cons,List.filter_cons,e1,hp,if_neg (by simp),if_pos rfl,e2];simp
  ·have hml:m∈l:=by
    rcases List.mem_cons.1 hm with h | h
    ·exact absurd h.symm e
    ·exact h
   have:=ih hnl hml fun x hx=>hq x (by simp [hx]);have e1:q a=p a:=by rw [hqa]; simp [e]
   rw [List.filter_cons,List.filter_cons,e1];cases p a<;>simp<;>omega
open Classical in
def B8X {R S:Nat->Nat->Prop} (hR:Eqv N R) {a b:Nat} (ha:a<N) (hb:b<N) (hab: ¬R a b)
  (hS: ∀x y,x<N->y<N->(S x y↔R x y∨(R a x∨R b x)∧(R a y∨R b y))):ncls N S+1=ncls N R:=by
 obtain ⟨u,hu1,⟨hu2,hu3⟩,hu4⟩:=A8n (P:=fun y=>y<N∧R a y) ⟨ha,hR.refl a ha⟩;obtain ⟨v,hv1,⟨hv2,hv3⟩,hv4⟩:=A8n (P:=fun y=>y<N∧R b y) ⟨hb,hR.refl b hb⟩;have hne:u≠v:=fun e=>by
  subst e;exact hab (hR.trans a u b ha hu2 hb hu3 (hR.symm b u hb hu2 hv3))
 have main: ∀a b u v:Nat,a<N->b<N-> ¬R a b->u<N->R a u->(∀y,y<N∧R a y->u≤y)->v<N->R b v->(∀y,y<N∧R b y->v≤y)->u<v->
   (∀x y,x<N->y<N->(S x y↔R x y∨(R a x∨R b x)∧(R a y∨R b y)))->ncls N S+1=ncls N R:=by
  intro a b u v ha hb hab hu2 hu3 hu4 hv2 hv3 hv4 huv hS;unfold ncls;refine A7Q (m:=v) List.nodup_range (List.mem_range.2 hv2) ?_ fun x hx=> ?_
  ·exact decide_eq_true fun y hy hr=>hv4 y ⟨hy,hR.trans b v y hb hv2 hy hv3 hr⟩
  ·have hx':=List.mem_range.1 hx;rw [Bool.eq_iff_iff,Bool.and_eq_true,decide_eq_true_eq,decide_eq_true_eq,decide_eq_true_eq];constructor
   ·intro H;refine ⟨fun y hy hr=>H y hy ((hS x y hx' hy).2 (.inl hr)),fun e=> ?_⟩;subst e;have:=H u hu2 ((hS x u hx' hu2).2 (.inr ⟨.inr hv3,.inl hu3⟩));omega
   ·rintro ⟨H,hxv⟩ y hy hs;rcases (hS x y hx' hy).1 hs with h | ⟨h1,h2⟩
    ·exact H y hy h
    ·have hxu:x=u:=by
      rcases h1 with h1 | h1
      ·have p1:=hu4 x ⟨hx',h1⟩;have p2:=H u hu2 (hR.trans x a u hx' ha hu2 (hR.symm a x ha hx' h1) hu3);omega
      ·have p1:=hv4 x ⟨hx',h1⟩;have p2:=H v hv2 (hR.trans x b v hx' hb hv2 (hR.symm b x hb hx' h1) hv3);omega
     rcases h2 with h2 | h2
     ·have:=hu4 y ⟨hy,h2⟩; omega
     ·have:=hv4 y ⟨hy,h2⟩; omega
 rcases Nat.lt_or_gt_of_ne hne with h | h
 ·exact main a b u v ha hb hab hu2 hu3 hu4 hv2 hv3 hv4 h hS
 ·refine main b a v u hb ha (fun h=>hab (hR.symm b a hb ha h)) hv2 hv3 hv4 hu2 hu3 hu4 h fun x y hx hy=> ?_;rw [hS x y hx hy];rw [Or.comm (a:=R a x),Or.comm (a:=R a y)]
def A3M (f:Nat->Nat) (x y:Nat):Prop:= ∃i,y=it f i x
def B8Y (hp:PermN N f):Eqv N (A3M f):=by
 refine ⟨fun x _=>⟨0,rfl⟩,fun x y hx _ ⟨i,hi⟩=> ?_,fun x y z _ _ _ ⟨i,hi⟩ ⟨j,hj⟩=>⟨j+i,by rw [A7P,<-hi,hj]⟩⟩;obtain ⟨p,h1,h2,h3,h4⟩:=B02 hp hx;refine ⟨p-i%p,?_⟩;rw [hi,C3T h1 h3 i,<-A7P,show p-i%p+i%p=p by have:=Nat.mod_lt i (show p>0 by omega); omega,h3]
def A1l (f:Nat->Nat) (a b x:Nat):Nat:=if x=a then f b else if x=b then f a else f x
def A9g (hp:PermN N f) {a b:Nat} (ha:a<N) (hb:b<N):PermN N (A1l f a b):=by
 have h1:=hp.lt a ha;have h2:=hp.lt b hb;refine ⟨fun x hx=> ?_,fun x y hx hy e=> ?_⟩
 ·have:=hp.lt x hx;unfold A1l;split
  ·exact h2
  ·split<;>assumption
 ·have hi:=fun u v=>hp.inj u v;by_cases hab:a=b
  ·subst hab;have q: ∀z,A1l f a a z=f z:=fun z=>by
    unfold A1l; split
    ·rename_i h; rw [h]
    ·rfl
   rw [q,q] at e;exact hi x y hx hy e
  ·have qa:A1l f a b a=f b:=by unfold A1l; rw [if_pos rfl]
   have qb:A1l f a b b=f a:=by unfold A1l; rw [if_neg (fun e=>hab e.symm),if_pos rfl]
   have qo: ∀z,z≠a->z≠b->A1l f a b z=f z:=fun z h1 h2=>by unfold A1l; rw [if_neg h1,if_neg h2]
   by_cases xa:x=a
   ·subst xa;rw [qa] at e;by_cases ya:y=x
    ·exact ya.symm
    ·by_cases yb:y=b
     ·subst yb; rw [qb] at e; exact (hi _ _ hb ha e).symm
     ·rw [qo y ya yb] at e; exact absurd (hi _ _ hb hy e).symm yb
   ·by_cases xb:x=b
    ·subst xb;rw [qb] at e;by_cases ya:y=a
     ·subst ya; rw [qa] at e; exact (hi _ _ ha hb e).symm
     ·by_cases yb:y=x
      ·exact yb.symm
      ·rw [qo y ya yb] at e; exact absurd (hi _ _ ha hy e).symm ya
    ·rw [qo x xa xb] at e;by_cases ya:y=a
     ·subst ya; rw [qa] at e; exact absurd (hi _ _ hx hb e) xb
     ·by_cases yb:y=b
      ·subst yb; rw [qb] at e; exact absurd (hi _ _ hx ha e) xa
      ·rw [qo y ya yb] at e; exact hi _ _ hx hy e
def B03 (hp:PermN N f) {a b:Nat} (ha:a<N) (hb:b<N) (hab: ¬A3M f b a) {y:Nat} (hy:A3M f b y):A3M (A1l f a b) a y:=by
 obtain ⟨q,h1,h2,h3,h4⟩:=B02 hp hb;have key: ∀i,1≤i->i≤q->it (A1l f a b) i a=it f i b:=by
  intro i hi hq
  induction i with
  | zero=>omega
  | succ i ih=>
   by_cases e:i=0
   ·subst e;show A1l f a b a=f b;unfold A1l; rw [if_pos rfl]
   ·have:=ih (by omega) (by omega);show A1l f a b (it (A1l f a b) i a)=f (it f i b);rw [this];unfold A1l;rw [if_neg (fun e=>hab ⟨i,e.symm⟩),if_neg (h4 i (by omega) (by omega))]
 obtain ⟨i,hi⟩:=hy;rw [C3T h1 h3 i] at hi;by_cases e:i%q=0
 ·rw [e] at hi;refine ⟨q,?_⟩;rw [key q h1 (Nat.le_refl _),h3,hi]; rfl
 ·refine ⟨i%q,?_⟩;rw [key _ (by omega) (Nat.le_of_lt (Nat.mod_lt _ (by omega))),hi]
def B8Z (f:Nat->Nat) (a b:Nat):A1l f a b=A1l f b a:=by
 funext x;unfold A1l;by_cases h1:x=a
 ·by_cases h2:x=b
  ·rw [if_pos h1,if_pos h2,<-h1,<-h2]
  ·rw [if_pos h1,if_neg h2,if_pos h1]
 ·by_cases h2:x=b
  ·rw [if_neg h1,if_pos h2,if_pos h2]
  ·rw [if_neg h1,if_neg h2,if_neg h2,if_neg h1]
def B9a (hp:PermN N f) {a b:Nat} (ha:a<N) (hb:b<N) (hab: ¬A3M f a b):
  ∀x y,x<N->y<N->(A3M (A1l f a b) x y↔A3M f x y∨(A3M f a x∨A3M f b x)∧(A3M f a y∨A3M f b y)):=by
 have hE:=B8Y hp;have hS:=B8Y (A9g hp ha hb);have hba: ¬A3M f b a:=fun h=>hab (hE.symm _ _ hb ha h);have rb: ∀y,A3M f b y->A3M (A1l f a b) a y:=fun y hy=>B03 hp ha hb hba hy;have ra: ∀y,A3M f a y->A3M (A1l f a b) b y:=fun y hy=>by rw [B8Z]; exact B03 hp hb ha hab hy
 have hab':A3M (A1l f a b) a b:=rb b ⟨0,rfl⟩;have hall: ∀y,y<N->A3M f a y∨A3M f b y->A3M (A1l f a b) a y:=fun y hy h=>by
  rcases h with h | h
  ·exact hS.trans a b y ha hb hy hab' (ra y h)
  ·exact rb y h
 intro x y hx hy;have hcl: ∀u,u<N->(A3M f a u∨A3M f b u↔A3M f a (f u)∨A3M f b (f u)):=fun u hu=>by
  have h1:A3M f u (f u):=⟨1,rfl⟩;have hfu:=hp.lt u hu;have h2:=hE.symm _ _ hu hfu h1;exact ⟨fun h=>h.imp (fun h=>hE.trans _ _ _ ha hu hfu h h1) (fun h=>hE.trans _ _ _ hb hu hfu h h1),fun h=>h.imp (fun h=>hE.trans _ _ _ ha hfu hu h h2) (fun h=>hE.trans _ _ _ hb hfu hu h h2)⟩
 constructor
 ·rintro ⟨i,hi⟩;have hlt: ∀j,it (A1l f a b) j x<N:=fun j=>(A9g hp ha hb).it_lt hx j;subst hi;clear hy
  induction i with
  | zero=>exact .inl ⟨0,rfl⟩
  | succ i ih=>
   show A3M f x (A1l f a b (it (A1l f a b) i x))∨_∧(A3M f a (A1l f a b (it (A1l f a b) i x))∨A3M f b (A1l f a b (it (A1l f a b) i x)));have hl:=hlt i;generalize it (A1l f a b) i x=u at*;have aa:A3M f a a:=⟨0,rfl⟩;have bb:A3M f b b:=⟨0,rfl⟩;have hux:u=a∨u=b->A3M f a x∨A3M f b x:=fun h=>by
    rcases ih with h1 | h1
    ·rcases h with rfl | rfl
     ·exact .inl (hE.symm _ _ hx hl h1)
     ·exact .inr (hE.symm _ _ hx hl h1)
    ·exact h1.1
   by_cases e1:u=a
   ·have:A1l f a b u=f b:=by unfold A1l; rw [if_pos e1]
    rw [this];exact .inr ⟨hux (.inl e1),(hcl b hb).1 (.inr bb)⟩
   ·by_cases e2:u=b
    ·have:A1l f a b u=f a:=by unfold A1l; rw [if_neg e1,if_pos e2]
     rw [this];exact .inr ⟨hux (.inr e2),(hcl a ha).1 (.inl aa)⟩
    ·have:A1l f a b u=f u:=by unfold A1l; rw [if_neg e1,if_neg e2]
     rw [this];rcases ih with ⟨j,hj⟩ | ⟨h1,h2⟩
     ·exact .inl ⟨j+1,by rw [hj]; rfl⟩
     ·exact .inr ⟨h1,(hcl u hl).1 h2⟩
 ·rintro (h | ⟨h1,h2⟩)
  ·by_cases hx2:A3M f a x∨A3M f b x
   ·have hy2:A3M f a y∨A3M f b y:=hx2.imp (fun q=>hE.trans _ _ _ ha hx hy q h) (fun q=>hE.trans _ _ _ hb hx hy q h);exact hS.trans x a y hx ha hy (hS.symm _ _ ha hx (hall x hx hx2)) (hall y hy hy2)
   ·obtain ⟨i,rfl⟩:=h;refine ⟨i,?_⟩;clear hy;have key: ∀j,it (A1l f a b) j x=it f j x:=fun j=>by
     induction j with
     | zero=>rfl
     | succ j ih=>
      show A1l f a b (it (A1l f a b) j x)=f (it f j x);rw [ih];unfold A1l;have hl:=hp.it_lt hx j;rw [if_neg (fun e=>hx2 (.inl (hE.symm _ _ hx ha ⟨j,e.symm⟩))),if_neg (fun e=>hx2 (.inr (hE.symm _ _ hx hb ⟨j,e.symm⟩)))]
    exact (key i).symm
  ·exact hS.trans x a y hx ha hy (hS.symm _ _ ha hx (hall x hx h1)) (hall y hy h2)
open Go.Sp
section
variable {N:Nat} {f:Nat->Nat}
end
end Go.Proofs.YtdbdfkohpjefjaaGreat
