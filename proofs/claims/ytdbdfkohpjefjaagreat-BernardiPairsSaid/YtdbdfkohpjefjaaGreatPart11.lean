/- A part of the proof. -/
import Derived.Test.YtdbdfkohpjefjaaGreatPart07
import Derived.Test.YtdbdfkohpjefjaaGreatPart08
set_option linter.all false
set_option maxHeartbeats 4000000
set_option maxRecDepth 100000
namespace Go.Proofs.YtdbdfkohpjefjaaGreat
open Go.Sp
def inL (p:Int->Bool) (n:Nat):List Int:=((List.range n).map fun (i:Nat)=>(i:Int)).filter p
def C40 (p:Int->Bool) (n:Nat):(inL p n).length≤n:=by
 have:=Jw p ((List.range n).map fun (i:Nat)=>(i:Int));simpa [inL] using this
def A9p {p:Int->Bool} {n:Nat} {x:Int}:x∈inL p n↔(0≤x∧x<n)∧p x=true:=by
 simp only [inL,Yq,QJ,Xy];constructor
 ·rintro ⟨⟨i,hi,rfl⟩,h⟩; exact ⟨by omega,h⟩
 ·rintro ⟨h,h2⟩; exact ⟨⟨x.toNat,by omega,by omega⟩,h2⟩
def A53 (p:Int->Bool) (n:Nat):(inL p n).Pairwise (·< ·):=by
 refine List.Pairwise.filter _ ?_;rw [JQ];exact List.pairwise_lt_range.imp fun {a b} h=>by omega
def A9q {n:Int}: ∀{l:List Int} {u:Option Int},(∀x,x∈l->0≤x∧x<n)->l.Pairwise (·< ·)->(∀w,u=some w-> ∀x,x∈l->w<x)->A47 n u l=0
 | [],_,_,_,_=>rfl
 | x::xs,u,h1,h2,h3=>by
  have:=h1 x (by simp);have hp:=Wz.1 h2;simp only [A47];rw [if_neg (by omega),if_neg (by rintro ⟨w,hw,hx⟩; have:=h3 w hw x (by simp); omega)];refine A9q (fun y hy=>h1 y (by simp [hy])) hp.2 fun w hw y hy=> ?_;cases hw; exact hp.1 y hy
def A9r: ∀{l:List Int} {x y:Int},l.Pairwise (·< ·)->0≤A1C l x->0≤A1C l y->x<y->A1C l x<A1C l y
 | [],x,y,_,h,_,_=>by simp [A1C] at h
 | z ::zs,x,y,h,hx,hy,hxy=>by
  have hp:=Wz.1 h;simp only [A1C] at hx hy ⊢;by_cases ex:z=x
  ·subst ex;rw [if_pos rfl];rw [if_neg (by omega)] at hy ⊢;split at hy
   ·omega
   ·rw [if_neg (by omega)]; omega
  ·rw [if_neg ex] at hx ⊢;split at hx
   ·omega
   ·have hxm:x∈zs:=(A8k zs x).1 (by omega);have:=hp.1 x hxm;rw [if_neg (by omega)] at hy ⊢;split at hy
    ·omega
    ·have:=A9r hp.2 (x:=x) (y:=y) (by omega) (by omega) hxy;rw [if_neg (by omega),if_neg (by omega)]; omega
def B0A (F:Int->Int) (x:E):E:=⟨F x.a,F x.b,x.m⟩
def A29 (F:Int->Int) (x:E):Bool:=decide (0≤F x.a∧0≤F x.b)
variable {es:List E}
def B6W {a b m:Int} (h: ∀x,x∈es-> ¬(x.a=a∧x.b=b)):A1B es a b m=es++[⟨a,b,m⟩]:=by
 induction es with
 | nil=>rfl
 | cons x xs ih=>simp only [A1B]; rw [if_neg (h x (by simp)),ih fun y hy=>h y (by simp [hy])]; rfl
def B4t (F:Int->Int):Prop:= ∀u v,0≤F u->0≤F v->u<v->F u<F v
variable {F:Int->Int}
def C37 (hF:B4t F) {x y:E} (hx:A29 F x=true) (hy:A29 F y=true) (h:ltE x y):ltE (B0A F x) (B0A F y):=by
 simp only [A29,decide_eq_true_eq] at hx hy;unfold ltE B0A at*;simp only;rcases h with h | ⟨h,h2⟩
 ·exact .inl (hF _ _ hx.1 hy.1 h)
 ·exact .inr ⟨by rw [h],hF _ _ hx.2 hy.2 h2⟩
def B4u (hF:B4t F): ∀(es acc:List E),(∀x,x∈es->x.a≤x.b)->es.Pairwise ltE->(∀y,y∈acc-> ∀x,x∈es->A29 F x=true->ltE y (B0A F x))->
  es.foldl (A3o F) acc=acc++(es.filter (A29 F)).map (B0A F)
 | [],acc,_,_,_=>by simp
 | x ::xs,acc,h1,h2,h3=>by
  have hp:=Wz.1 h2;have hx:=h1 x (by simp);simp only [List.foldl_cons];by_cases hb:A29 F x=true
  ·have hb':=hb;simp only [A29,decide_eq_true_eq] at hb';have hab:F x.a≤F x.b:=by
    by_cases e:x.a=x.b
    ·rw [e]; omega
    ·have:=hF x.a x.b hb'.1 hb'.2 (by omega); omega
   have e1:min (F x.a) (F x.b)=F x.a:=by omega
   have e2:max (F x.a) (F x.b)=F x.b:=by omega
   have e:A3o F acc x=acc++[B0A F x]:=by
    unfold A3o;rw [if_pos hb',e1,e2,B6W fun y hy=> ?_]
    ·rfl
    ·have:=h3 y hy x (by simp) hb;unfold ltE B0A at this;simp only at this; omega
   rw [e,B4u hF xs _ (fun y hy=>h1 y (by simp [hy])) hp.2 (fun y hy z hz hzb=> ?_),Qx6 hb]
   ·simp
   ·rcases XY.1 hy with hy | hy
    ·exact h3 y hy z (by simp [hz]) hzb
    ·obtain rfl:=Zq.1 hy;exact C37 hF hb hzb (hp.1 z hz)
  ·have e:A3o F acc x=acc:=by
    unfold A3o; exact if_neg (by simpa [A29] using hb)
   rw [e,B4u hF xs _ (fun y hy=>h1 y (by simp [hy])) hp.2 (fun y hy z hz hzb=>h3 y hy z (by simp [hz]) hzb),Qx7 hb]
def B9r (hF:B4t F) (h1: ∀x,x∈es->x.a≤x.b) (h2:es.Pairwise ltE):B4l F es=(es.filter (A29 F)).map (B0A F):=by
 unfold B4l;rw [B4u hF es [] h1 h2 (by simp)]; rfl
def A9s (hF:B4t F) (h2:es.Pairwise ltE):((es.filter (A29 F)).map (B0A F)).Pairwise ltE:=by
 rw [JQ];have h3:(es.filter (A29 F)).Pairwise fun x y=>ltE x y∧A29 F x=true∧A29 F y=true:=by
  rw [List.pairwise_filter];exact h2.imp fun {x y} h hx hy=>⟨h,hx,hy⟩
 exact h3.imp fun {x y} h=>C37 hF h.2.1 h.2.2 h.1
def B54 (hF:B4t F) (h1: ∀x,x∈es->x.a≤x.b) (h2:es.Pairwise ltE):A3k (B4l F es)=(es.filter (A29 F)).map (B0A F):=by
 rw [B9r hF h1 h2];exact C1Q (A9s hF h2) (List.Perm.refl _)
def B9s (q:Int->Bool):List (Int×Int)->Int
 | []=>0
 | p::l=>(if q p.1=q p.2 then 0 else 1)+B9s q l
def A45 (q:Int->Bool):List (Int×Int)->Int
 | []=>0
 | p::l=>(if q p.1=true∧q p.2=true then 1 else 0)+A45 q l
def B2P (q:Int->Bool) (a b:List (Int×Int)):A45 q (a++b)=A45 q a+A45 q b:=by
 induction a with
 | nil=>simp [A45]
 | cons x xs ih=>simp only [List.cons_append,A45,ih]; omega
def B9t (q:Int->Bool) (p:Int×Int) (k:Nat):A45 q (List.replicate k p)=if q p.1=true∧q p.2=true then (k:Int) else 0:=by
 induction k with
 | zero=>simp [A45]
 | succ k ih=>rw [List.replicate_succ]; simp only [A45,ih]; split<;>omega
def B9u (set:List Int) (l:List (Int×Int)):((C2d set l).length:Int)=B9s (fun v=>decide (v∈set)) l:=by
 have key: ∀(l:List (Int×Int)) (k:Nat),((((l.zipIdx k).filterMap fun q=>if C2c set q.1 then some (q.2:Int) else none).length:Nat):Int)=B9s (fun v=>decide (v∈set)) l:=by
  intro l
  induction l with
  | nil=>intro k; rfl
  | cons p l ih=>
   intro k;rw [List.zipIdx_cons,List.filterMap_cons];simp only [B9s];by_cases h:decide (p.1∈set)=decide (p.2∈set)
   ·rw [if_pos h];have hs:C2c set p=false:=by unfold C2c; rw [decide_eq_true h]; rfl
    simp only [hs,Yk,if_false];rw [ih]; omega
   ·rw [if_neg h];have hs:C2c set p=true:=by unfold C2c; rw [decide_eq_false h]; rfl
    simp only [hs,if_true,List.length_cons];have:=ih (k+1);omega
 exact key l 0
def C41 {q:Int->Bool} {n:Nat} {l:List (Int×Int)} (hr: ∀p,p∈l->(0≤p.1∧p.1<n)∧(0≤p.2∧p.2<n)):
  sumR (fun v=>if q v then A6W v l else 0) n=B9s q l+2*A45 q l:=by
 induction l with
 | nil=>simp only [A6W,B9s,A45]; rw [A0F fun _ _=>by simp]; rfl
 | cons p l ih=>
  have h1:=hr p (by simp);have h2:=ih fun x hx=>hr x (by simp [hx]);have h3:sumR (fun v=>if q v then A6W v (p::l) else 0) n=sumR (fun v=>if (v:Int)=p.1 then (if q p.1 then 1 else 0) else 0) n+sumR (fun v=>if (v:Int)=p.2 then (if q p.2 then 1 else 0) else 0) n+sumR (fun v=>if q v then A6W v l else 0) n:=by
   rw [<-A06,<-A06];refine A0g fun i _=> ?_;simp only [A6W,b2i];have c1:(if p.1=(i:Int) then (1:Int) else 0)=if (i:Int)=p.1 then 1 else 0:=by
    by_cases e:(i:Int)=p.1
    ·rw [if_pos e,if_pos e.symm]
    ·rw [if_neg e,if_neg fun h=>e h.symm]
   have c2:(if p.2=(i:Int) then (1:Int) else 0)=if (i:Int)=p.2 then 1 else 0:=by
    by_cases e:(i:Int)=p.2
    ·rw [if_pos e,if_pos e.symm]
    ·rw [if_neg e,if_neg fun h=>e h.symm]
   rw [c1,c2];have q1:(i:Int)=p.1->q p.1=q i:=fun e=>by rw [e]
   have q2:(i:Int)=p.2->q p.2=q i:=fun e=>by rw [e]
   by_cases e1:(i:Int)=p.1
   ·by_cases e2:(i:Int)=p.2
    ·rw [if_pos e1,if_pos e2,if_pos e1,if_pos e2,q1 e1,q2 e2]; split<;>omega
    ·rw [if_pos e1,if_neg e2,if_pos e1,if_neg e2,q1 e1]; split<;>omega
   ·by_cases e2:(i:Int)=p.2
    ·rw [if_neg e1,if_pos e2,if_neg e1,if_pos e2,q2 e2]; split<;>omega
    ·rw [if_neg e1,if_neg e2,if_neg e1,if_neg e2]; split<;>omega
  rw [h3,h2,A4n h1.1.1 h1.1.2,A4n h1.2.1 h1.2.2];simp only [B9s,A45];cases hq1:q p.1<;>cases hq2:q p.2<;>simp<;>omega
def B6X {q r:Int->Bool} {l:List (Int×Int)} (h: ∀p,p∈l->q p.1=r p.1∧q p.2=r p.2):B9s q l=B9s r l:=by
 induction l with
 | nil=>rfl
 | cons p l ih=>
  have h1:=h p (by simp);simp only [B9s,ih fun x hx=>h x (by simp [hx]),h1.1,h1.2]
def B4v {q r:Int->Bool} {l:List (Int×Int)} (h: ∀p,p∈l->q p.1=r p.1∧q p.2=r p.2):A45 q l=A45 r l:=by
 induction l with
 | nil=>rfl
 | cons p l ih=>
  have h1:=h p (by simp);simp only [A45,ih fun x hx=>h x (by simp [hx]),h1.1,h1.2]
def B55 (hm: ∀x,x∈es->1≤x.m):(((endsL ((es.filter (A29 F)).map (B0A F))).length:Nat):Int)=A45 (fun v=>decide (0≤F v)) (endsL es):=by
 induction es with
 | nil=>rfl
 | cons x xs ih=>
  have h1:=hm x (by simp);have h2:=ih fun y hy=>hm y (by simp [hy]);rw [A7s,B2P,B9t,<-h2];by_cases hb:A29 F x=true
  ·rw [Qx6 hb,XQ,A7s,Xv,Yz];have hb':=hb;simp only [A29,decide_eq_true_eq] at hb';rw [if_pos (by simpa using hb')];simp only [B0A]; omega
  ·rw [Qx7 hb,if_neg (by simpa [A29] using hb)]; omega
def A42 {α β:Type} {f g:α->Option β}: ∀{l:List α},(∀x,x∈l->f x=g x)->l.filterMap f=l.filterMap g
 | [],_=>rfl
 | x::xs,h=>by
  rw [List.filterMap_cons,List.filterMap_cons,h x (by simp),A42 fun y hy=>h y (by simp [hy])]
def B9v {s t:List Int} {l:List (Int×Int)} (h: ∀p,p∈l->C2c s p=C2c t p):C2d s l=C2d t l:=by
 unfold C2d;refine A42 fun q hq=> ?_;have:q.1∈l:=by
  obtain ⟨a,i⟩:=q;have:=List.mem_zipIdx hq;simp at this;rw [this.2]; exact Xk _
 rw [h _ this]
def B4w {g:G} {n:Nat} (hc:checkG g=0) (hn:g.n=n) (p:Int->Bool):
  B38 g (inL p n)=0∧B38 g (inL (fun v=> !p v) n)=0∧C2d (inL p n) (endsL g.es)=C2d (inL (fun v=> !p v) n) (endsL g.es)∧
  (inL p n=[]->C2d (inL p n) (endsL g.es)=[])∧
  (inL p n≠[]->indE g (inL p n)=0∧checkG (B7O g (inL p n))=0∧(B7O g (inL p n)).es.length≤g.es.length∧
   sumR (fun v=>if p v then A6W v (endsL g.es) else 0) n=(C2d (inL p n) (endsL g.es)).length+2*(endsL (B7O g (inL p n)).es).length):=by
 obtain ⟨h1,h2,h3⟩:=A0j.1 hc;have hsub: ∀q:Int->Bool,B38 g (inL q n)=0:=fun q=>by
  unfold B38;rw [if_neg (by omega)];refine A9q (fun x hx=> ?_) (A53 _ _) (fun w hw=>by cases hw);have:=(A9p.1 hx).1; omega
 have hr: ∀x,x∈endsL g.es->(0≤x.1∧x.1<n)∧(0≤x.2∧x.2<n):=fun x hx=>by
  obtain ⟨e,he,hx⟩:=Jq.1 hx;obtain rfl:=Qj1 hx;have:=h2 e he;unfold okE at this;simp only; omega
 have hmem: ∀(q:Int->Bool) (v:Int),0≤v->v<n->decide (v∈inL q n)=q v:=fun q v hv1 hv2=>by
  rw [Qj9]; simp [A9p,hv1,hv2]
 refine ⟨hsub p,hsub _,?_,?_,?_⟩
 ·refine B9v fun x hx=> ?_;have:=hr x hx;unfold C2c;rw [hmem p x.1 (by omega) (by omega),hmem p x.2 (by omega) (by omega),hmem (fun v=> !p v) x.1 (by omega) (by omega),hmem (fun v=> !p v) x.2 (by omega) (by omega)];cases p x.1<;>cases p x.2<;>rfl
 ·intro e;rw [e];have:((C2d [] (endsL g.es)).length:Int)=0:=by
   rw [B9u];generalize endsL g.es=l
   induction l with
   | nil=>rfl
   | cons x xs ih=>simp only [B9s]; simp; simpa using ih
  exact Yx.1 (by omega)
 ·intro hne;have hF:B4t (A1C (inL p n)):=fun u v hu hv huv=>A9r (A53 _ _) hu hv huv;have hE:indE g (inL p n)=0:=by unfold indE; rw [if_neg (by rw [hsub]; simp),if_neg hne]
  have hlen:=C40 p n;have hl0:0<(inL p n).length:=Ww.2 hne;have hG:B7O g (inL p n)=⟨(inL p n).length,(g.es.filter (A29 (A1C (inL p n)))).map (B0A (A1C (inL p n)))⟩:=by
   unfold B7O;rw [if_neg (by rw [hE]; simp),B54 hF (fun x hx=>by have:=h2 x hx; unfold okE at this; omega) h3]
  refine ⟨hE,?_,?_,?_⟩
  ·rw [hG,A0j];refine ⟨by simp only; omega,fun e he=> ?_,A9s hF h3⟩;obtain ⟨x,hx,rfl⟩:=QJ.1 he;obtain ⟨hx,hb⟩:=Yq.1 hx;have hok:=h2 x hx;simp only [A29,decide_eq_true_eq] at hb;have hlt:=B4m (inL p n) x.b;have hab:A1C (inL p n) x.a≤A1C (inL p n) x.b:=by
    by_cases e:x.a=x.b
    ·rw [e]; omega
    ·have:=hF x.a x.b hb.1 hb.2 (by unfold okE at hok; omega); omega
   unfold okE at*;simp only [B0A]; omega
  ·rw [hG]; simp only [XW]; exact Jw _ _
  ·rw [C41 hr,B9u,hG];simp only;rw [B55 (fun x hx=>by have:=h2 x hx; unfold okE at this; omega)];rw [B6X (q:=p) (r:=fun v=>decide (v∈inL p n)),B4v (q:=p) (r:=fun v=>decide (0≤A1C (inL p n) v))]
   ·intro x hx;have:=hr x hx;have e: ∀v:Int,0≤v->v<n->p v=decide (0≤A1C (inL p n) v):=fun v hv1 hv2=>by
     rw [<-hmem p v hv1 hv2]; exact decide_eq_decide.2 (A8k _ _).symm
    exact ⟨e _ (by omega) (by omega),e _ (by omega) (by omega)⟩
   ·intro x hx;have:=hr x hx;exact ⟨(hmem p _ (by omega) (by omega)).symm,(hmem p _ (by omega) (by omega)).symm⟩
def A3J {f g:Nat->Int} {n:Nat} (h: ∀i,i<n->f i≤g i):sumR f n≤sumR g n:=by
 induction n with
 | zero=>exact WW _
 | succ n ih=>simp only [sumR]; have:=ih fun i hi=>h i (by omega); have:=h n (by omega); omega
def A1W {f:Nat->Int} {n:Nat} (h: ∀i,i<n->0≤f i):0≤sumR f n:=by
 have:=A3J (f:=fun _=>0) (g:=f) h;rwa [A0F fun _ _=>rfl] at this
def A1L (f g:Nat->Int) (n:Nat):sumR (fun i=>f i-g i) n=sumR f n-sumR g n:=by
 induction n with
 | zero=>rfl
 | succ n ih=>simp only [sumR,ih]; omega
def A4r (c:Int) (f:Nat->Int) (n:Nat):sumR (fun i=>c*f i) n=c*sumR f n:=by
 induction n with
 | zero=>simp [sumR]
 | succ n ih=>simp only [sumR,ih,Qv3]
def A1Z (c:Int) (n:Nat):sumR (fun _=>c) n=n*c:=by
 induction n with
 | zero=>simp [sumR]
 | succ n ih=>simp only [sumR,ih]; rw [Int.natCast_add,Int.add_mul]; simp
def A3q (f:Nat->Nat->Int) (n m:Nat):sumR (fun i=>sumR (f i) m) n=sumR (fun j=>sumR (fun i=>f i j) n) m:=by
 induction n with
 | zero=>simp only [sumR]; rw [A0F fun _ _=>rfl]
 | succ n ih=>simp only [sumR,ih]; rw [<-A06]
def A1p {f:Nat->Int}: ∀{n:Nat},(∀i,i<n->0≤f i)-> ∀{j:Nat},j<n->f j≤sumR f n
 | 0,_,j,hj=>by omega
 | n+1,h,j,hj=>by
  simp only [sumR];by_cases e:j=n
  ·subst e; have:=A1W (f:=f) (n:=j) fun i hi=>h i (by omega); omega
  ·have:=A1p (n:=n) (fun i hi=>h i (by omega)) (j:=j) (by omega);have:=h n (by omega); omega
def A0O (c:Int) (j:Nat): ∀{n:Nat},j<n->sumR (fun i=>if i=j then c else 0) n=c
 | 0,h=>by omega
 | n+1,h=>by
  simp only [sumR];by_cases e:j=n
  ·subst e; rw [if_pos rfl,A0F fun i hi=>if_neg (by omega)]; omega
  ·rw [if_neg (by omega),A0O c j (n:=n) (by omega)]; omega
structure Mult (n:Nat) (M:Nat->Nat->Int):Prop where
 sym: ∀u v,M u v=M v u
 pos: ∀u v,0≤M u v
 dia: ∀v,M v v=0
 con: ∀S:Nat->Bool,(∃v,v<n∧S v=true)->(∃v,v<n∧S v=false)-> ∃u v,u<n∧v<n∧S u=true∧S v=false∧1≤M u v
def lap (n:Nat) (M:Nat->Nat->Int) (s:Nat->Int) (v:Nat):Int:=sumR (fun u=>M v u*(s v-s u)) n
def A9t (n:Nat) (M:Nat->Nat->Int) (D E:Nat->Int):Prop:= ∃s:Nat->Int,∀v,v<n->E v=D v-lap n M s v
section
variable {n:Nat} {M:Nat->Nat->Int}
def A7u (s t:Nat->Int) (v:Nat):lap n M (fun u=>s u+t u) v=lap n M s v+lap n M t v:=by
 unfold lap; rw [<-A06];exact A0g fun u _=>by rw [<-Qv3]; congr 1; dsimp only; omega
def B4x (s:Nat->Int) (v:Nat):lap n M (fun u=> -s u) v= -lap n M s v:=by
 unfold lap;have:sumR (fun u=>M v u*(-s v- -s u)) n=sumR (fun u=>(-1)*(M v u*(s v-s u))) n:=A0g fun u _=>by
  rw [show -s v- -s u= -(s v-s u) by omega,Int.mul_neg]; omega
 rw [this,A4r]; omega
def C42 (h:Mult n M) (s:Nat->Int):sumR (lap n M s) n=0:=by
 have e1:sumR (lap n M s) n=sumR (fun v=>sumR (fun u=>M v u*s v) n) n-sumR (fun v=>sumR (fun u=>M v u*s u) n) n:=by
  rw [<-A1L];exact A0g fun v _=>by unfold lap; rw [<-A1L]; exact A0g fun u _=>by rw [Int.mul_sub]
 have e2:sumR (fun v=>sumR (fun u=>M v u*s u) n) n=sumR (fun v=>sumR (fun u=>M v u*s v) n) n:=by
  rw [A3q];exact A0g fun v _=>A0g fun u _=>by rw [h.sym]
 omega
def A9t.refl (D:Nat->Int):A9t n M D D:=⟨fun _=>0,fun v _=>by unfold lap; rw [A0F fun u _=>by simp]; omega⟩
def A9t.symm {D E:Nat->Int} (h:A9t n M D E):A9t n M E D:=by
 obtain ⟨s,hs⟩:=h;exact ⟨fun u=> -s u,fun v hv=>by rw [B4x,hs v hv]; omega⟩
def A9t.trans {D E F:Nat->Int} (h:A9t n M D E) (h':A9t n M E F):A9t n M D F:=by
 obtain ⟨s,hs⟩:=h; obtain ⟨t,ht⟩:=h';exact ⟨fun u=>s u+t u,fun v hv=>by rw [A7u,ht v hv,hs v hv]; omega⟩
def A9t.deg (hM:Mult n M) {D E:Nat->Int} (h:A9t n M D E):sumR E n=sumR D n:=by
 obtain ⟨s,hs⟩:=h;rw [A0g hs,A1L,C42 hM]; omega
def A9t.of_eq {D E:Nat->Int} (h: ∀v,v<n->E v=D v):A9t n M D E:=by
 obtain ⟨s,hs⟩:=A9t.refl (n:=n) (M:=M) D;exact ⟨s,fun v hv=>by rw [h v hv]; exact hs v hv⟩
def A7v (s:Nat->Int): ∀{n:Nat},0<n-> ∃v,v<n∧ ∀u,u<n->s u≤s v
 | 0,h=>by omega
 | 1,_=>⟨0,by omega,fun u hu=>by rw [show u=0 by omega]; exact WW _⟩
 | n+2,_=>by
  obtain ⟨v,h1,h2⟩:=A7v s (n:=n+1) (by omega);by_cases h:s v≤s (n+1)
  ·exact ⟨n+1,by omega,fun u hu=>by
    by_cases e:u=n+1
    ·rw [e]; exact WW _
    ·have:=h2 u (by omega); omega⟩
  ·exact ⟨v,by omega,fun u hu=>by
    by_cases e:u=n+1
    ·rw [e]; omega
    ·exact h2 u (by omega)⟩
end
def B2a (A:Nat->Bool) (v:Nat):Int:=if A v=true then 1 else 0
def outA (n:Nat) (M:Nat->Nat->Int) (A:Nat->Bool) (v:Nat):Int:=sumR (fun u=>if A u=true then 0 else M v u) n
def inA (n:Nat) (M:Nat->Nat->Int) (A:Nat->Bool) (v:Nat):Int:=sumR (fun u=>if A u=true then M v u else 0) n
variable {q:Nat} {D:Nat->Int}
section
variable {n:Nat} {M:Nat->Nat->Int}
def B9w (t:Int) (A:Nat->Bool) (v:Nat):lap n M (fun u=>t*B2a A u) v=if A v=true then t*outA n M A v else-(t*inA n M A v):=by
 unfold lap B2a;cases h:A v with
 | true=>
  rw [if_pos rfl];unfold outA;rw [<-A4r];refine A0g fun u _=> ?_
  (try dsimp only)
  rw [h,if_pos rfl];cases A u<;>simp [Qv0]
 | false=>
  rw [if_neg (by simp)];unfold inA;rw [<-A4r];have:sumR (fun u=>M v u*(t*(if A v=true then 1 else 0)-t*if A u=true then 1 else 0)) n=sumR (fun u=> -1*(t*if A u=true then M v u else 0)) n:=A0g fun u _=>by
   rw [h,if_neg (by simp)];cases A u
   ·simp
   ·simp only [if_true,Qv2,Int.zero_sub,Int.mul_one,Int.mul_neg]; rw [Qv0 t]; omega
  rw [this,A4r]; omega
def B0B (hM:Mult n M) (A:Nat->Bool) (v:Nat):0≤inA n M A v:=A1W fun u _=>by have:=hM.pos v u; split<;>omega
def C6n (hM:Mult n M) (A:Nat->Bool) {u v:Nat} (hu:u<n) (hA:A u=true):M v u≤inA n M A v:=by
 have:=A1p (f:=fun u=>if A u=true then M v u else 0) (n:=n) (fun i _=>by have:=hM.pos v i; split<;>omega) hu;rwa [if_pos hA] at this
def C43 (hM:Mult n M) {D s:Nat->Int} (hq:q<n) (hw: ∀v,v<n->v≠q->0≤D v-lap n M s v) {P:Int} (hP:sumR (fun v=>if v=q then 0 else max 0 (D v)) n≤P) {c:Int} (hc:s q≤c) (hex: ∃v,v<n∧c<s v):
  ∃v,v<n∧c<s v∧s v≤c+P:=by
 obtain ⟨v0,hv0,hcv0⟩:=hex;obtain ⟨v,u,hv,hu,hSv,hSu,hm⟩:=hM.con (fun v=>decide (c<s v)) ⟨v0,hv0,decide_eq_true hcv0⟩ ⟨q,hq,decide_eq_false (by omega)⟩;rw [decide_eq_true_eq] at hSv;rw [decide_eq_false_iff_not] at hSu;refine ⟨v,hv,hSv,?_⟩;have e1:sumR (fun v=>if c<s v then lap n M s v else 0) n≤P:=by
  refine Qw8 (A3J fun v hv=> ?_) hP;split
  ·have hne:v≠q:=by rintro rfl; omega
   have:=hw v hv hne;rw [if_neg hne];have:=Int.le_max_right 0 (D v);omega
  ·split
   ·exact WW _
   ·exact Int.le_max_left _ _
 have e2:sumR (fun v=>if c<s v then lap n M s v else 0) n=sumR (fun v=>sumR (fun u=>if c<s v∧ ¬c<s u then M v u*(s v-s u) else 0) n) n:=by
  have h1:sumR (fun v=>if c<s v then lap n M s v else 0) n=sumR (fun v=>sumR (fun u=>if c<s v∧ ¬c<s u then M v u*(s v-s u) else 0) n+sumR (fun u=>if c<s v∧c<s u then M v u*(s v-s u) else 0) n) n:=A0g fun v _=>by
   rw [<-A06];split
   ·rename_i h;unfold lap;refine A0g fun u _=> ?_;by_cases h2:c<s u
    ·rw [if_neg (fun q=>q.2 h2),if_pos ⟨h,h2⟩]; omega
    ·rw [if_pos ⟨h,h2⟩,if_neg (fun q=>h2 q.2)]; omega
   ·rename_i h;rw [A0F fun u _=> ?_];rw [if_neg (fun q=>h q.1),if_neg (fun q=>h q.1)]; rfl
  have h2:sumR (fun v=>sumR (fun u=>if c<s v∧c<s u then M v u*(s v-s u) else 0) n) n=sumR (fun v=>sumR (fun u=> -1*if c<s v∧c<s u then M v u*(s v-s u) else 0) n) n:=by
   conv=>lhs; rw [A3q]
   refine A0g fun v _=>A0g fun u _=> ?_;by_cases h:c<s u∧c<s v
   ·rw [if_pos h,if_pos h.symm,hM.sym u v,Int.neg_mul,Int.one_mul,<-Int.mul_neg]; congr 1; omega
   ·rw [if_neg h,if_neg (fun q=>h q.symm)]; rfl
  have h3:sumR (fun v=>sumR (fun u=> -1*if c<s v∧c<s u then M v u*(s v-s u) else 0) n) n= -1*sumR (fun v=>sumR (fun u=>if c<s v∧c<s u then M v u*(s v-s u) else 0) n) n:=by
   rw [<-A4r];exact A0g fun v _=>by rw [A4r]
  rw [h1,A06];omega
 have nn: ∀v u,v<n->u<n->0≤(if c<s v∧ ¬c<s u then M v u*(s v-s u) else 0):=fun v u _ _=>by
  split
  ·exact Qj4 (hM.pos v u) (by omega)
  ·exact WW _
 have e3:(if c<s v∧ ¬c<s u then M v u*(s v-s u) else 0)≤sumR (fun u=>if c<s v∧ ¬c<s u then M v u*(s v-s u) else 0) n:=A1p (f:=fun u=>if c<s v∧ ¬c<s u then M v u*(s v-s u) else 0) (fun i hi=>nn v i hv hi) hu;have e4:sumR (fun u=>if c<s v∧ ¬c<s u then M v u*(s v-s u) else 0) n≤sumR (fun v=>sumR (fun u=>if c<s v∧ ¬c<s u then M v u*(s v-s u) else 0) n) n:=A1p (f:=fun v=>sumR (fun u=>if c<s v∧ ¬c<s u then M v u*(s v-s u) else 0) n) (fun i hi=>A1W fun j hj=>nn i j hi hj) hv;rw [if_pos ⟨hSv,hSu⟩] at e3;have e5:1*(s v-s u)≤M v u*(s v-s u):=Int.mul_le_mul_of_nonneg_right hm (by omega);omega
def A7K {p r:Nat->Bool}: ∀{l:List Nat},(∀x,x∈l->p x=true->r x=true)->(∃x,x∈l∧r x=true∧p x=false)->l.countP p<l.countP r
 | [],_,⟨x,hx,_⟩=>by cases hx
 | a::l,h,⟨x,hx,h1,h2⟩=>by
  rw [Qq9,Qq9];have hle:l.countP p≤l.countP r:=List.countP_mono_left fun y hy hp=>h y (by simp [hy]) hp;rcases Qw.1 hx with rfl | hx
  ·rw [h1,h2]; simp; omega
  ·have:=A7K (l:=l) (fun y hy=>h y (by simp [hy])) ⟨x,hx,h1,h2⟩;have ha:=h a (by simp);cases hp:p a with
   | true=>rw [ha hp]; simp; omega
   | false=>cases r a<;>simp<;>omega
def C44 (hM:Mult n M) {D s:Nat->Int} (hq:q<n) (hw: ∀v,v<n->v≠q->0≤D v-lap n M s v) {P:Int} (hP:sumR (fun v=>if v=q then 0 else max 0 (D v)) n≤P): ∀v,v<n->s v≤s q+n*P:=by
 have hP0:0≤P:=by
  refine Qw8 (A1W fun v _=> ?_) hP
  (try dsimp only); split
  ·exact WW _
  ·exact Int.le_max_left _ _
 have key: ∀k:Nat,k≤n->(List.range n).countP (fun v=>decide (s q+k*P<s v))+k≤n∨(List.range n).countP (fun v=>decide (s q+k*P<s v))=0:=by
  intro k
  induction k with
  | zero=>intro _; left; exact Yj (Nat.add_le_add_right List.countP_le_length 0) (by simp)
  | succ k ih=>
   intro hk;by_cases hx: ∃v,v<n∧s q+k*P<s v
   ·obtain ⟨v,hv,h1,h2⟩:=C43 hM hq hw hP (c:=s q+k*P) (by have:=Qj4 (show 0≤(k:Int) by omega) hP0; omega) hx;have e:((k+1:Nat):Int)*P=k*P+P:=by rw [Int.natCast_add,Int.add_mul]; simp
    have:=A7K (p:=fun v=>decide (s q+(k+1:Nat)*P<s v)) (r:=fun v=>decide (s q+k*P<s v)) (l:=List.range n) (fun x _ hp=>by
     rw [decide_eq_true_eq] at hp ⊢; omega) ⟨v,Xy.2 hv,decide_eq_true h1,decide_eq_false (by omega)⟩
    left;rcases ih (by omega) with h | h<;>omega
   ·right;rw [List.countP_eq_zero];intro v hv;rw [decide_eq_true_eq];have e:((k+1:Nat):Int)*P=k*P+P:=by rw [Int.natCast_add,Int.add_mul]; simp
    intro hlt;exact hx ⟨v,Xy.1 hv,by omega⟩
 intro v hv;rcases key n (QQ _) with h | h
 ·have h0:(List.range n).countP (fun v=>decide (s q+n*P<s v))=0:=by omega
  rw [List.countP_eq_zero] at h0;have:=h0 v (Xy.2 hv);rw [decide_eq_true_eq] at this; omega
 ·rw [List.countP_eq_zero] at h;have:=h v (Xy.2 hv);rw [decide_eq_true_eq] at this; omega
def reducedAt (n:Nat) (M:Nat->Nat->Int) (q:Nat) (D:Nat->Int):Prop:=(∀v,v<n->v≠q->0≤D v)∧ ∀A:Nat->Bool,A q=false->(∃v,v<n∧A v=true)-> ∃v,v<n∧A v=true∧D v<outA n M A v
def B9x (hM:Mult n M) (h: ∀v,v<n->v≠q->0≤D v) {A:Nat->Bool} {t:Int} (ht:0≤t) (hl: ∀v,v<n->A v=true->t*outA n M A v≤D v): ∀v,v<n->v≠q->0≤D v-lap n M (fun u=>t*B2a A u) v:=fun v hv hne=>by
 rw [B9w];split
 ·rename_i hA; have:=hl v hv hA; omega
 ·have:=Qj4 ht (B0B hM A v);have:=h v hv hne;omega
def C2p (hM:Mult n M) (hq:q<n) (D:Nat->Int): ∀(k:Nat) (s:Nat->Int),(∀v,v<n->v≠q->0≤D v-lap n M s v)->s q=0->n*(n*sumR (fun v=>if v=q then 0 else max 0 (D v)) n)-sumR s n≤k-> ∃s',reducedAt n M q (fun v=>D v-lap n M s' v):=by
 intro k
 induction k with
 | zero=>
  intro s hw hs hk;refine ⟨s,hw,fun A hAq hA=> ?_⟩;refine Xq fun hx=> ?_;have hl: ∀v,v<n->A v=true->1*outA n M A v≤D v-lap n M s v:=fun v hv hAv=>by
   have: ¬D v-lap n M s v<outA n M A v:=fun hlt=>hx ⟨v,hv,hAv,hlt⟩;omega
  have hw':=B9x hM (D:=fun v=>D v-lap n M s v) hw (t:=1) (by omega) hl;have hg:=C44 hM hq (D:=D) (s:=fun u=>s u+1*B2a A u) (fun v hv hne=>by have:=hw' v hv hne; rw [A7u]; (try dsimp only at this); omega) (WW _);have h0:s q+1*B2a A q=0:=by unfold B2a; rw [hAq,hs]; rfl
  (try dsimp only at hg)
  rw [h0] at hg;have hsum:sumR (fun u=>s u+1*B2a A u) n≤n*(0+n*sumR (fun v=>if v=q then 0 else max 0 (D v)) n):=by
   rw [<-A1Z]; exact A3J hg
  rw [A06] at hsum;obtain ⟨v,hv,hAv⟩:=hA;have h1:=A1p (f:=fun u=>1*B2a A u) (n:=n) (fun i _=>by (try dsimp only); unfold B2a; split<;>omega) hv;have h2:1*B2a A v=1:=by unfold B2a; rw [if_pos hAv]; rfl
  (try dsimp only at h1)
  rw [Int.zero_add] at hsum;omega
 | succ k ih=>
  intro s hw hs hk;by_cases hr:reducedAt n M q (fun v=>D v-lap n M s v)
  ·exact ⟨s,hr⟩
  ·have: ∃A:Nat->Bool,A q=false∧(∃v,v<n∧A v=true)∧ ∀v,v<n->A v=true->outA n M A v≤D v-lap n M s v:=by
    refine Xq fun hx=>hr ⟨hw,fun A h1 h2=> ?_⟩;refine Xq fun h3=>hx ⟨A,h1,h2,fun v hv hA=> ?_⟩;have: ¬D v-lap n M s v<outA n M A v:=fun hlt=>h3 ⟨v,hv,hA,hlt⟩;omega
   obtain ⟨A,hAq,⟨v,hv,hAv⟩,hl⟩:=this;have hw':=B9x hM (D:=fun v=>D v-lap n M s v) hw (t:=1) (by omega) (fun v hv hA=>by have:=hl v hv hA; (try dsimp only); omega);refine ih (fun u=>s u+1*B2a A u) (fun v hv hne=>by have:=hw' v hv hne; rw [A7u]; (try dsimp only at this); omega) (by (try dsimp only); unfold B2a; rw [hAq,hs]; rfl) ?_;rw [A06];have h1:=A1p (f:=fun u=>1*B2a A u) (n:=n) (fun i _=>by (try dsimp only); unfold B2a; split<;>omega) hv;have h2:1*B2a A v=1:=by unfold B2a; rw [if_pos hAv]; rfl
   (try dsimp only at h1)
   omega
def A7w (hM:Mult n M) (hq:q<n): ∀k,1≤k->k≤n-> ∃L:List Nat,L.length=k∧L.Nodup∧(∀v,v∈L->v<n)∧L[0]? =some q∧ ∀i v,1≤i->L[i]? =some v-> ∃u,u∈L.take i∧1≤M v u:=by
 intro k
 induction k with
 | zero=>intro h; omega
 | succ k ih=>
  intro _ hk;rcases Qz3 k with h0 | h0
  ·subst h0;exact ⟨[q],rfl,by simp,by simpa using hq,rfl,fun i v hi hv=>by have:=(Qx.1 hv).1; simp at this; omega⟩
  ·obtain ⟨L,l1,l2,l3,l4,l5⟩:=ih h0 (by omega);have hout: ∃v,v<n∧v∉L:=by
    refine Xq fun hx=> ?_;have:=YZ (l₁:=List.range n) (l₂:=L) Qq8 fun v hv=>Xq fun h=>hx ⟨v,Xy.1 hv,h⟩;rw [Vk] at this; omega
   obtain ⟨w,hw,hwL⟩:=hout;obtain ⟨u,v,hu,hv,h1,h2,h3⟩:=hM.con (fun v=>decide (v∈L)) ⟨q,hq,decide_eq_true (Qy l4)⟩ ⟨w,hw,decide_eq_false hwL⟩;rw [decide_eq_true_eq] at h1;rw [decide_eq_false_iff_not] at h2;refine ⟨L++[v],by simp [l1],Wj.2 ⟨l2,by simp,fun a ha b hb=>by simp at hb; subst hb; rintro rfl; exact h2 ha⟩,fun x hx=> ?_,by rw [Qk (by omega)]; exact l4,fun i x hi hx=> ?_⟩
   ·rcases XY.1 hx with h | h
    ·exact l3 x h
    ·rw [Zq.1 h]; exact hv
   ·by_cases hil:i<L.length
    ·rw [Qk hil] at hx;obtain ⟨y,y1,y2⟩:=l5 i x hi hx;exact ⟨y,by rw [ZQ (by omega)]; exact y1,y2⟩
    ·have hi2:=(Qx.1 hx).1;simp at hi2;have hie:i=L.length:=by omega
     subst hie;rw [QV (QQ _)] at hx;simp at hx; subst hx;exact ⟨u,by rw [ZQ (QQ _),Zy]; exact h1,by rw [hM.sym]; exact h3⟩
def B4y (hM:Mult n M) (hq:q<n) (D:Nat->Int): ∃s,∀v,v<n->v≠q->0≤D v-lap n M s v:=by
 obtain ⟨L,l1,l2,l3,l4,l5⟩:=A7w hM hq n (by omega) (QQ _);have hall: ∀v,v<n->v∈L:=fun v hv=>by
  refine Xq fun h=> ?_;have:=YZ (l₁:=v::L) (l₂:=List.range n) (Qq5.2 ⟨h,l2⟩) fun x hx=>by
   rcases Qw.1 hx with rfl | hx
   ·exact Xy.2 hv
   ·exact Xy.2 (l3 x hx)
  simp at this; omega
 have key: ∀k,k≤n-1-> ∃s,∀i v,n-k≤i->L[i]? =some v->0≤D v-lap n M s v:=by
  intro k
  induction k with
  | zero=>intro _; exact ⟨fun _=>0,fun i v hi hv=>by have:=(Qx.1 hv).1; omega⟩
  | succ k ih=>
   intro hk;obtain ⟨s,hs⟩:=ih (by omega);have hlt:n-(k+1)<L.length:=by omega
   obtain ⟨x,hx⟩: ∃x,L[n-(k+1)]? =some x:=⟨_,Qq hlt⟩;obtain ⟨u,u1,u2⟩:=l5 _ x (by omega) hx;let A:Nat->Bool:=fun v=>decide (v∈L.take (n-(k+1)));let t:Int:=max 0 (-(D x-lap n M s x));have ht:0≤t:=Int.le_max_left _ _;refine ⟨fun v=>s v+t*B2a A v,fun i v hi hv=> ?_⟩;have hnA:A v=false:=decide_eq_false fun hm=>by
    obtain ⟨j,hj⟩:=Zj.1 hm;have hj2:=(Qx.1 hj).1;rw [YV] at hj2;rw [Xz (by omega)] at hj;have:=(List.getElem?_inj (Qx.1 hj).1 l2).1 (hj.trans hv.symm);omega
   rw [A7u,B9w,if_neg (by rw [hnA]; simp)];by_cases hie:i=n-(k+1)
   ·subst hie;rw [hx] at hv; cases hv;have h1:=C6n hM A (u:=u) (v:=x) (l3 u (Vy u1)) (decide_eq_true u1);have h2:t*1≤t*inA n M A x:=Qv1 (by omega) ht;have h3: -(D x-lap n M s x)≤t:=Int.le_max_right _ _;omega
   ·have h1:=hs i v (by omega) hv;have h2:=Qj4 ht (B0B hM A v);omega
 obtain ⟨s,hs⟩:=key (n-1) (QQ _);refine ⟨s,fun v hv hne=> ?_⟩;obtain ⟨i,hi⟩:=Zj.1 (hall v hv);refine hs i v ?_ hi;rcases Qz3 i with h0 | h0
 ·subst h0; rw [l4] at hi; cases hi; exact absurd rfl hne
 ·omega
def B0C (hM:Mult n M) (hq:q<n) (D:Nat->Int): ∃R,A9t n M D R∧reducedAt n M q R:=by
 obtain ⟨s,hs⟩:=B4y hM hq D;have hw: ∀v,v<n->v≠q->0≤D v-lap n M (fun u=>s u+ -s q) v:=fun v hv hne=>by
  rw [A7u];have:lap n M (fun _=> -s q) v=0:=by unfold lap; exact A0F fun u _=>by simp
  rw [this]; have:=hs v hv hne; omega
 obtain ⟨s',hr⟩:=C2p hM hq D (n*(n*sumR (fun v=>if v=q then 0 else max 0 (D v)) n)-sumR (fun u=>s u+ -s q) n).toNat (fun u=>s u+ -s q) hw (by (try dsimp only); omega) (by omega);exact ⟨_,⟨s',fun _ _=>rfl⟩,hr⟩
end
def B2Q (es:List E) (v:Int) (n:Nat):Int:=sumR (fun u=>if (u:Int)=v then 0 else A1H es (min (u:Int) v) (max (u:Int) v)) n
def A6D {g:G} (hc:checkG g=0) (a b:Int):0≤A1H g.es a b∧A1H g.es a b≤50:=by
 have hmul:=(A0j.1 hc).2.1;exact ⟨B4f fun e he=>by have:=hmul e he; unfold okE at this; omega,B4e (fun e he=>by have:=hmul e he; unfold okE at this; omega) (by omega)⟩
def C2q {g:G} {n:Nat} (hc:checkG g=0) (hn:g.n=n) {v:Int} (hv:0≤v∧v<n):B2Q g.es v n=B8L v g.es:=by
 have h1:=(B9c hc hn).2.2 v;have h2:sumR (fun u=>A1H g.es (min v u) (max v u)) n=B2Q g.es v n+sumR (fun u=>if (u:Int)=v then A1H g.es v v else 0) n:=by
  unfold B2Q;rw [<-A06];refine A0g fun i _=> ?_;by_cases e:(i:Int)=v
  ·rw [if_pos e,if_pos e,e,Int.min_self,Int.max_self]; omega
  ·rw [if_neg e,if_neg e,Int.min_comm,Int.max_comm]; omega
 rw [A4n hv.1 hv.2] at h2;omega
def B4z (g:G) (n:Nat) (hc:checkG g=0) (hn:g.n=n) (hl:g.es.length<2^30) (v:Int):ACall Tryz.prog 183 [tG g,A0n v] (A0n (B2Q g.es v n)):=by
 have hn12:=(A0j.1 hc).1;have hVb: ∀u,u≤n->0≤B2Q g.es v u∧B2Q g.es v u≤600:=fun u hu=>by
  have:=B05 (f:=fun u=>if (u:Int)=v then 0 else A1H g.es (min (u:Int) v) (max (u:Int) v)) (n:=u) (k:=50) (fun i _=>by have:=A6D hc (min (i:Int) v) (max (i:Int) v); (try simp only); split<;>omega);unfold B2Q; omega
 refine ACall.of_body Tryz.func183 rfl (by kernel_rfl) ?_;simp only [entry,Tryz.ntmps183,tG,A0n];refine zU ?_;refine zR Qv6 Qv6 Qv6 ?_;refine AWp.loopS (α:=Nat) 23 (fun u=>[(1,.c (.int .i64 v)),(2,.c (.ptr 0 0)),(5,.c (.int .i64 (B2Q g.es v u))),(6,.c (.int .i64 (u:Int)))]) (fun u=>[.box [.int .i64 g.n,.slice (A0f g.es) .none]]) (fun u=>u≤n) (fun u=>n-u) (0) (hk:=Weak.headL 1 23 [1,2,5,6] zW) (h0:=?_) (round:=fun u hI=>?_)
 ·exact Xw _
 ·have hun:u≤n:=hI;clear hI;by_cases hlt:u<n
  ·have hltI:(u:Int)<g.n:=by omega
   have hb:=A5X g u v (by omega);have hcb:=A6D hc (min (u:Int) v) (max (u:Int) v);have hV:=hVb u hun;have hV1:B2Q g.es v (u+1)=B2Q g.es v u+(if (u:Int)=v then 0 else A1H g.es (min (u:Int) v) (max (u:Int) v)):=rfl;generalize B2Q g.es v u=S at*;generalize A1H g.es (min (u:Int) v) (max (u:Int) v)=k at*;refine zM Qv6 (zc @hltI Qv6) (zc hb Qv6) Qv6 Qv6 (zc (ed fun hp hpc=>?_) (ed fun hp hpc=>?_))
   ·rw [if_neg (by first | assumption | exact hpc)] at hV1;refine ⟨u+1,Weak.headF 1 23 [1,2,5,6] (zc @hV1 Qv6) zW,?_,?_⟩
    ·exact hlt
    ·omega
   ·rw [if_pos (by first | assumption | exact hpc),Int.add_zero] at hV1;refine ⟨u+1,Weak.headF 1 23 [1,2,5,6] (zc @hV1 Qv6) zW,?_,?_⟩
    ·exact hlt
    ·omega
  ·have eu:u=n:=by omega
   subst eu;have hnl: ¬((u:Int)<g.n):=by omega
   refine zR (zc @hnl Qv6) Qv6 Qv6 ?_;simp [A00,A0z,Blk.cells,ty,Tryz.results183,A0v,A0w,toT,A0d,A0b,A0c,A0a,A0n]
def B6Y (g:G) (n:Nat) (hc:checkG g=0) (hn:g.n=n) (hl:g.es.length<2^30) (v:Int):ACall Tryz.prog 156 [tG g,A0n v] (A0n (B2Q g.es v n+2*A1H g.es v v)):=by
 have hn12:=(A0j.1 hc).1;have hVb:0≤B2Q g.es v n∧B2Q g.es v n≤600:=by
  have:=B05 (f:=fun u=>if (u:Int)=v then 0 else A1H g.es (min (u:Int) v) (max (u:Int) v)) (n:=n) (k:=50) (fun i _=>by have:=A6D hc (min (i:Int) v) (max (i:Int) v); (try simp only); split<;>omega);unfold B2Q; omega
 have hb:=A5X g v v (by omega);rw [Int.min_self,Int.max_self] at hb;have hcb:=A6D hc v v;have hv:=B4z g n hc hn hl v;refine ACall.of_body Tryz.func156 rfl (by kernel_rfl) ?_;simp only [entry,Tryz.ntmps156,tG,A0n];refine zU ?_;generalize B2Q g.es v n=S at*;generalize A1H g.es v v=k at*;refine zR Qv6 (zc hv (zc hb Qv6)) Qv6 ?_;simp [A00,A0z,Blk.cells,ty,Tryz.results156,A0v,A0w,toT,A0d,A0b,A0c,A0a,A0n]
section
variable {n:Nat} {M:Nat->Nat->Int}
def B9y (hM:Mult n M) (hq:q<n) {R S s:Nat->Int} (h1:reducedAt n M q R) (h2: ∀v,v<n->v≠q->0≤S v) (hs: ∀v,v<n->S v=R v-lap n M s v): ∀v,v<n->s v≤s q:=by
 obtain ⟨v0,hv0,hmax⟩:=A7v s (n:=n) (by omega);refine fun v hv=>Qw8 (hmax v hv) ?_;refine Xq fun hx=> ?_;have hx:s q<s v0:=by omega
 obtain ⟨w,hw,hA,hlt⟩:=h1.2 (fun u=>decide (s u=s v0)) (decide_eq_false (by omega)) ⟨v0,hv0,decide_eq_true rfl⟩;have hA:=of_decide_eq_true hA;have hwq:w≠q:=by rintro rfl; omega
 have hl:outA n M (fun u=>decide (s u=s v0)) w≤lap n M s w:=by
  unfold outA lap;refine A3J fun u hu=> ?_;have hp:=hM.pos w u;have hm:=hmax u hu;by_cases e:s u=s v0
  ·rw [if_pos (decide_eq_true e),hA,e,Int.sub_self,Qv2]; exact WW _
  ·rw [if_neg (by rw [decide_eq_true_eq]; exact e),hA];have h3:M w u*1≤M w u*(s v0-s u):=Qv1 (by omega) hp;omega
 have:=h2 w hw hwq;rw [hs w hw] at this;omega
def B6Z (hM:Mult n M) (hq:q<n) {R S:Nat->Int} (h1:reducedAt n M q R) (h2:reducedAt n M q S) (he:A9t n M R S): ∀v,v<n->R v=S v:=by
 obtain ⟨s,hs⟩:=he;have a:=B9y hM hq h1 h2.1 hs;have b:=B9y hM hq h2 h1.1 (s:=fun u=> -s u) fun v hv=>by rw [B4x,hs v hv]; omega
 intro v hv;have hz:lap n M s v=0:=by
  unfold lap;refine A0F fun u hu=> ?_;have:=a u hu; have q1: -s u≤ -s q:=b u hu; have:=a v hv; have q2: -s v≤ -s q:=b v hv;rw [show s v-s u=0 by omega,Qv2]
 rw [hs v hv,hz]; omega
def C45 {α:Type} {l m:List α} (hl:l.Nodup) (hm:m.Nodup) (h: ∀x,x∈l->x∈m):l.length≤m.length:=by
 classical
 have hp:l.Perm (m.filter fun x=>decide (x∈l)):=(WJ hl (hm.filter _)).2 fun x=>by
  rw [Yq,decide_eq_true_eq]; exact ⟨fun hx=>⟨h x hx,hx⟩,fun hx=>hx.2⟩
 rw [hp.length_eq]; exact Jw _ _
def A6E {α β:Type} {f:α->β} {l:List α} (hl:l.Nodup) (hf: ∀x,x∈l-> ∀y,y∈l->f x=f y->x=y):(l.map f).Nodup:=by
 show List.Pairwise _ _;rw [JQ];exact List.Pairwise.imp_of_mem (fun {x y} hx hy h e=>h (hf x hx y hy e)) hl
def atI (l:List Int) (v:Nat):Int:=l.getD v 0
def ssL (n:Nat) (M:Nat->Nat->Int) (q:Nat) (l:List Int):Prop:=l.length=n∧atI l q=0∧reducedAt n M q (atI l)
def C46 {l m:List Int} (h1:l.length=n) (h2:m.length=n) (h: ∀v,v<n->atI l v=atI m v):l=m:=by
 refine Qq6 (h1.trans h2.symm) fun i q1 q2=> ?_;have:=h i (by omega);unfold atI at this;rwa [Qz,Qz,Qq q1,Qq q2] at this
def zeroAt (n q:Nat) (D:Nat->Int):List Int:=(List.range n).map fun v=>if v=q then 0 else D v
def B0D (q:Nat) (D:Nat->Int):(zeroAt n q D).length=n:=by simp [zeroAt]
def A3X {q v:Nat} (D:Nat->Int) (hv:v<n):atI (zeroAt n q D) v=if v=q then 0 else D v:=by
 unfold atI zeroAt;rw [Qz,QW,Yv hv]; rfl
def reducedAt.congr {D E:Nat->Int} (h:reducedAt n M q D) (he: ∀v,v<n->v≠q->D v=E v):reducedAt n M q E:=by
 refine ⟨fun v hv hq=>by rw [<-he v hv hq]; exact h.1 v hv hq,fun A hA hx=> ?_⟩;obtain ⟨v,hv,h1,h2⟩:=h.2 A hA hx;refine ⟨v,hv,h1,?_⟩;rw [<-he v hv (by rintro rfl; rw [hA] at h1; cases h1)]; exact h2
def B7a {f g:Nat->Int} (hq:q<n) (h: ∀v,v<n->v≠q->f v=g v) (hs:sumR f n=sumR g n):f q=g q:=by
 have h1:sumR (fun v=>f v-g v) n=0:=by rw [A1L]; omega
 have h2:sumR (fun v=>f v-g v) n=sumR (fun v=>if v=q then f q-g q else 0) n:=A0g fun v hv=>by
  by_cases e:v=q
  ·subst e; simp
  ·rw [if_neg e,h v hv e]; omega
 rw [h1,A0O _ _ hq] at h2;omega
end
section
variable {n:Nat} {M:Nat->Nat->Int}
end
section
variable {n a b:Nat} {M:Nat->Nat->Int}
end
section
variable {n q:Nat} {M:Nat->Nat->Int} {c:Nat->Int}
def valM (n:Nat) (M:Nat->Nat->Int) (v:Nat):Int:=sumR (M v) n
def catchP (n:Nat) (M:Nat->Nat->Int) (c:Nat->Int) (L:List Nat) (v:Nat):Bool:=decide (v∉L)&&decide (valM n M v≤c v+inA n M (fun u=>decide (u∈L)) v)
def fireG (n:Nat) (M:Nat->Nat->Int) (c:Nat->Int):Nat->List Nat->List Nat
 | 0,L=>L
 | k+1,L=>match (List.range n).find? (catchP n M c L) with
  | some v=>fireG n M c k (L++[v])
  | none=>L
structure Burns (n:Nat) (M:Nat->Nat->Int) (c:Nat->Int) (q:Nat) (L:List Nat):Prop where
 nd:L.Nodup
 lt: ∀v,v∈L->v<n
 hd:L[0]? =some q
 ct: ∀i v,1≤i->L[i]? =some v->catchP n M c (L.take i) v=true
end
section
variable {n q:Nat} {M:Nat->Nat->Int}
structure recP (n:Nat) (M:Nat->Nat->Int) (q:Nat) (l:List Int):Prop where
 len:l.length=n
 z:atI l q=0
 st: ∀v,v<n->v≠q->0≤atI l v∧atI l v<valM n M v
 full:(fireG n M (atI l) (n-1) [q]).length=n
def C6o (hM:Mult n M) (h:reducedAt n M q D) {v:Nat} (hv:v<n) (hq:v≠q):D v<valM n M v:=by
 obtain ⟨u,hu,hA,hlt⟩:=h.2 (fun u=>decide (u=v)) (by simp; exact fun e=>hq e.symm) ⟨v,hv,by simp⟩;have hA':u=v:=by simpa using hA
 subst hA';have e:outA n M (fun w=>decide (w=u)) u=valM n M u:=by
  unfold outA valM;refine A0g fun w hw=> ?_;by_cases e:w=u
  ·subst e; simp [hM.dia]
  ·simp [e]
 omega
end
end Go.Proofs.YtdbdfkohpjefjaaGreat
