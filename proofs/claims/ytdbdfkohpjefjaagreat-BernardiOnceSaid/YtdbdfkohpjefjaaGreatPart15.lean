/- A part of the proof. -/
import Derived.Test.YtdbdfkohpjefjaaGreatPart10
set_option linter.all false
set_option maxHeartbeats 4000000
set_option maxRecDepth 100000
namespace Go.Proofs.YtdbdfkohpjefjaaGreat
open Go.Sp
def sumR (f:Nat->Int):Nat->Int
 | 0=>0
 | n+1=>sumR f n+f n
theorem A1A (f g:Nat->Int) (n:Nat):sumR (fun i=>f i+g i) n=sumR f n+sumR g n:=by
 induction n with
 | zero=>rfl
 | succ n ih=>simp only [sumR,ih]; omega
theorem A1x {f:Nat->Int} {n:Nat} (h: ∀i,i<n->f i=0):sumR f n=0:=by
 induction n with
 | zero=>rfl
 | succ n ih=>simp only [sumR,ih fun i hi=>h i (by omega),h n (by omega)]; rfl
theorem A0w {f g:Nat->Int} {n:Nat} (h: ∀i,i<n->f i=g i):sumR f n=sumR g n:=by
 induction n with
 | zero=>rfl
 | succ n ih=>simp only [sumR,ih fun i hi=>h i (by omega),h n (by omega)]
theorem B0e {f:Nat->Int} {n:Nat} {k:Int} (h: ∀i,i<n->0≤f i∧f i≤k):0≤sumR f n∧sumR f n≤k*n:=by
 induction n with
 | zero=>simp [sumR]
 | succ n ih=>
  have h1:=ih fun i hi=>h i (by omega);have h2:=h n (by omega);have h3:k*((n+1:Nat):Int)=k*(n:Int)+k:=by rw [Int.natCast_add,Int.mul_add]; simp
  simp only [sumR]; omega
theorem A4d {c m:Int}: ∀{n:Nat},0≤c->c<n->sumR (fun i=>if (i:Int)=c then m else 0) n=m:=by
 intro n
 induction n with
 | zero=>intro h1 h2; omega
 | succ n ih=>
  intro h1 h2;simp only [sumR];by_cases e:(n:Int)=c
  ·rw [if_pos e,A1x (fun i hi=>if_neg (by omega))]; omega
  ·rw [if_neg e,ih h1 (by omega)]; omega
theorem A5O {es:List E} (h:es.Pairwise ltE):distinctE es:=h.imp fun {x y} h=>by unfold ltE at h; unfold neE; omega
theorem B82 {es:List E} {a b:Int} (h: ∀x,x∈es-> ¬(x.a=a∧x.b=b)):A1G es a b=0:=by
 induction es with
 | nil=>rfl
 | cons x xs ih=>simp only [A1G]; rw [if_neg (h x (by simp)),ih fun y hy=>h y (by simp [hy])]
theorem A8P {x:E} {xs:List E} (h:distinctE (x::xs)) (a b:Int):A1G (x::xs) a b=(if x.a=a∧x.b=b then x.m else 0)+A1G xs a b:=by
 simp only [A1G];by_cases hx:x.a=a∧x.b=b
 ·rw [if_pos hx,if_pos hx,B82 fun y hy=>by
   have:=(YY.1 h).1 y hy
   unfold neE at this; omega]
  omega
 ·rw [if_neg hx,if_neg hx]; omega
theorem A7d (x:E) (xs:List E):endsL (x::xs)=List.replicate x.m.toNat (x.a,x.b)++endsL xs:=by simp [endsL]
theorem C1t (v:Int) (p:Int×Int) (k:Nat):A6G v (List.replicate k p)=k*(b2i (p.1=v)+b2i (p.2=v)):=by
 induction k with
 | zero=>simp [A6G]
 | succ k ih=>rw [List.replicate_succ]; simp only [A6G,ih]; rw [Int.natCast_add,Int.add_mul]; omega
theorem B4N {es:List E} (hd:distinctE es) (hm: ∀x,x∈es->1≤x.m) (v:Int):A6G v (endsL es)=B8e v es+2*A1G es v v:=by
 induction es with
 | nil=>rfl
 | cons x xs ih=>
  have h1:=hm x (by simp);have h2:=ih (YY.1 hd).2 fun y hy=>hm y (by simp [hy]);rw [A7d,A8J,C1t,h2,A8P hd,B8e];have e:((x.m.toNat:Nat):Int)=x.m:=by omega
  rw [e];simp only [b2i];by_cases ha:x.a=v<;>by_cases hb:x.b=v
  ·simp [ha,hb]; omega
  ·simp [ha,hb]; rw [if_neg (fun h=>hb h.symm)]; omega
  ·simp [ha,hb]; omega
  ·simp [ha,hb]
theorem C3y {n:Nat} {es:List E} (hd:distinctE es) (hr: ∀x,x∈es->0≤x.a∧x.a≤x.b∧x.b<n) (v:Int):
  sumR (fun u=>A1G es (min v u) (max v u)) n=B8e v es+A1G es v v:=by
 induction es with
 | nil=>simp only [A1G,B8e]; rw [A1x fun _ _=>rfl]; rfl
 | cons x xs ih=>
  have h1:=hr x (by simp);have h2:=ih (YY.1 hd).2 fun y hy=>hr y (by simp [hy]);have h3:sumR (fun u=>A1G (x::xs) (min v u) (max v u)) n=sumR (fun u=>if x.a=min v (u:Int)∧x.b=max v (u:Int) then x.m else 0) n+sumR (fun u=>A1G xs (min v u) (max v u)) n:=by
   rw [<-A1A]; exact A0w fun i _=>A8P hd _ _
  rw [h3,h2,A8P hd,B8e];by_cases ha:x.a=v
  ·have h4:sumR (fun u=>if x.a=min v (u:Int)∧x.b=max v (u:Int) then x.m else 0) n=x.m:=by
    rw [A0w (g:=fun u=>if (u:Int)=x.b then x.m else 0),A4d (by omega) (by omega)];intro i _;by_cases hi:(i:Int)=x.b
    ·rw [if_pos hi,if_pos (by omega)]
    ·rw [if_neg hi,if_neg (by omega)]
   rw [h4];by_cases hb:x.b=v
   ·rw [if_neg (by omega),if_pos (by omega)]; omega
   ·rw [if_pos (by omega),if_neg (by omega)]; omega
  ·by_cases hb:x.b=v
   ·have h4:sumR (fun u=>if x.a=min v (u:Int)∧x.b=max v (u:Int) then x.m else 0) n=x.m:=by
     rw [A0w (g:=fun u=>if (u:Int)=x.a then x.m else 0),A4d (by omega) (by omega)];intro i _;by_cases hi:(i:Int)=x.a
     ·rw [if_pos hi,if_pos (by omega)]
     ·rw [if_neg hi,if_neg (by omega)]
    rw [h4,if_pos (by omega),if_neg (by omega)]; omega
   ·rw [A1x fun i _=>if_neg (by omega),if_neg (by omega),if_neg (by omega)]; omega
theorem C3z {n:Nat} {l:List (Int×Int)} (hr: ∀p,p∈l->(0≤p.1∧p.1<n)∧(0≤p.2∧p.2<n)):sumR (fun v=>A6G v l) n=2*l.length:=by
 induction l with
 | nil=>simp only [A6G]; rw [A1x fun _ _=>rfl]; rfl
 | cons p l ih=>
  have h1:=hr p (by simp);have h2:=ih fun q hq=>hr q (by simp [hq]);have h3:sumR (fun v=>A6G v (p::l)) n=sumR (fun v=>if (v:Int)=p.1 then 1 else 0) n+sumR (fun v=>if (v:Int)=p.2 then 1 else 0) n+sumR (fun v=>A6G v l) n:=by
   rw [<-A1A,<-A1A];refine A0w fun i _=> ?_;simp only [A6G,b2i];congr 1;congr 1
   ·by_cases e:p.1=(i:Int)
    ·rw [if_pos e,if_pos e.symm]
    ·rw [if_neg e,if_neg fun h=>e h.symm]
   ·by_cases e:p.2=(i:Int)
    ·rw [if_pos e,if_pos e.symm]
    ·rw [if_neg e,if_neg fun h=>e h.symm]
  rw [h3,h2,A4d h1.1.1 h1.1.2,A4d h1.2.1 h1.2.2,List.length_cons];omega
theorem B83 {g:G} {n:Nat} (hc:checkG g=0) (hn:g.n=n):
  sumR (fun v=>B8e v g.es+2*A1G g.es v v) n=2*(endsL g.es).length∧
  (∀v:Int,A6G v (endsL g.es)=B8e v g.es+2*A1G g.es v v)∧
  (∀v:Int,sumR (fun u=>A1G g.es (min v u) (max v u)) n=B8e v g.es+A1G g.es v v):=by
 obtain ⟨h1,h2,h3⟩:=A0h.1 hc;have hd:=A5O h3;have hv: ∀v:Int,A6G v (endsL g.es)=B8e v g.es+2*A1G g.es v v:=B4N hd fun x hx=>by have:=h2 x hx; unfold okE at this; omega
 refine ⟨?_,hv,fun v=>C3y hd (fun x hx=>by have:=h2 x hx; unfold okE at this; omega) v⟩;rw [<-C3z (n:=n) (l:=endsL g.es)]
 ·exact A0w fun i _=>(hv _).symm
 ·intro p hp;obtain ⟨e,he,hx⟩:=Jz.1 hp;obtain rfl:=Qz6 hx;have:=h2 e he;unfold okE at this;simp only; omega
def inL (p:Int->Bool) (n:Nat):List Int:=((List.range n).map fun (i:Nat)=>(i:Int)).filter p
theorem C30 (p:Int->Bool) (n:Nat):(inL p n).length≤n:=by
 have:=Jy p ((List.range n).map fun (i:Nat)=>(i:Int));simpa [inL] using this
theorem A8Q {p:Int->Bool} {n:Nat} {x:Int}:x∈inL p n↔(0≤x∧x<n)∧p x=true:=by
 simp only [inL,ZV,QJ,XQ];constructor
 ·rintro ⟨⟨i,hi,rfl⟩,h⟩; exact ⟨by omega,h⟩
 ·rintro ⟨h,h2⟩; exact ⟨⟨x.toNat,by omega,by omega⟩,h2⟩
theorem A5p (p:Int->Bool) (n:Nat):(inL p n).Pairwise (·< ·):=by
 refine List.Pairwise.filter _ ?_;rw [Jj];exact List.pairwise_lt_range.imp fun {a b} h=>by omega
theorem A8R {n:Int}: ∀{l:List Int} {u:Option Int},(∀x,x∈l->0≤x∧x<n)->l.Pairwise (·< ·)->(∀w,u=some w-> ∀x,x∈l->w<x)->A2h n u l=0
 | [],_,_,_,_=>rfl
 | x::xs,u,h1,h2,h3=>by
  have:=h1 x (by simp);have hp:=YY.1 h2;simp only [A2h];rw [if_neg (by omega),if_neg (by rintro ⟨w,hw,hx⟩; have:=h3 w hw x (by simp); omega)];refine A8R (fun y hy=>h1 y (by simp [hy])) hp.2 fun w hw y hy=> ?_;cases hw; exact hp.1 y hy
theorem A8S: ∀{l:List Int} {x y:Int},l.Pairwise (·< ·)->0≤A19 l x->0≤A19 l y->x<y->A19 l x<A19 l y
 | [],x,y,_,h,_,_=>by simp [A19] at h
 | z ::zs,x,y,h,hx,hy,hxy=>by
  have hp:=YY.1 h;simp only [A19] at hx hy ⊢;by_cases ex:z=x
  ·subst ex;rw [if_pos rfl];rw [if_neg (by omega)] at hy ⊢;split at hy
   ·omega
   ·rw [if_neg (by omega)]; omega
  ·rw [if_neg ex] at hx ⊢;split at hx
   ·omega
   ·have hxm:x∈zs:=(A7M zs x).1 (by omega);have:=hp.1 x hxm;rw [if_neg (by omega)] at hy ⊢;split at hy
    ·omega
    ·have:=A8S hp.2 (x:=x) (y:=y) (by omega) (by omega) hxy;rw [if_neg (by omega),if_neg (by omega)]; omega
def B0f (F:Int->Int) (x:E):E:=⟨F x.a,F x.b,x.m⟩
def A22 (F:Int->Int) (x:E):Bool:=decide (0≤F x.a∧0≤F x.b)
theorem B6l {es:List E} {a b m:Int} (h: ∀x,x∈es-> ¬(x.a=a∧x.b=b)):A18 es a b m=es++[⟨a,b,m⟩]:=by
 induction es with
 | nil=>rfl
 | cons x xs ih=>simp only [A18]; rw [if_neg (h x (by simp)),ih fun y hy=>h y (by simp [hy])]; rfl
def B34 (F:Int->Int):Prop:= ∀u v,0≤F u->0≤F v->u<v->F u<F v
theorem C2C {F:Int->Int} (hF:B34 F) {x y:E} (hx:A22 F x=true) (hy:A22 F y=true) (h:ltE x y):ltE (B0f F x) (B0f F y):=by
 simp only [A22,decide_eq_true_eq] at hx hy;unfold ltE B0f at*;simp only;rcases h with h | ⟨h,h2⟩
 ·exact .inl (hF _ _ hx.1 hy.1 h)
 ·exact .inr ⟨by rw [h],hF _ _ hx.2 hy.2 h2⟩
theorem B35 {F:Int->Int} (hF:B34 F): ∀(es acc:List E),(∀x,x∈es->x.a≤x.b)->es.Pairwise ltE->(∀y,y∈acc-> ∀x,x∈es->A22 F x=true->ltE y (B0f F x))->
  es.foldl (A3h F) acc=acc++(es.filter (A22 F)).map (B0f F)
 | [],acc,_,_,_=>by simp
 | x ::xs,acc,h1,h2,h3=>by
  have hp:=YY.1 h2;have hx:=h1 x (by simp);simp only [List.foldl_cons];by_cases hb:A22 F x=true
  ·have hb':=hb;simp only [A22,decide_eq_true_eq] at hb';have hab:F x.a≤F x.b:=by
    by_cases e:x.a=x.b
    ·rw [e]; omega
    ·have:=hF x.a x.b hb'.1 hb'.2 (by omega); omega
   have e1:min (F x.a) (F x.b)=F x.a:=by omega
   have e2:max (F x.a) (F x.b)=F x.b:=by omega
   have e:A3h F acc x=acc++[B0f F x]:=by
    unfold A3h;rw [if_pos hb',e1,e2,B6l fun y hy=> ?_]
    ·rfl
    ·have:=h3 y hy x (by simp) hb;unfold ltE B0f at this;simp only at this; omega
   rw [e,B35 hF xs _ (fun y hy=>h1 y (by simp [hy])) hp.2 (fun y hy z hz hzb=> ?_),Qx1 hb]
   ·simp
   ·rcases XJ.1 hy with hy | hy
    ·exact h3 y hy z (by simp [hz]) hzb
    ·obtain rfl:=Zz.1 hy;exact C2C hF hb hzb (hp.1 z hz)
  ·have e:A3h F acc x=acc:=by
    unfold A3h; exact if_neg (by simpa [A22] using hb)
   rw [e,B35 hF xs _ (fun y hy=>h1 y (by simp [hy])) hp.2 (fun y hy z hz hzb=>h3 y hy z (by simp [hz]) hzb),Qx2 hb]
theorem B84 {F:Int->Int} (hF:B34 F) {es:List E} (h1: ∀x,x∈es->x.a≤x.b) (h2:es.Pairwise ltE):B3z F es=(es.filter (A22 F)).map (B0f F):=by
 unfold B3z;rw [B35 hF es [] h1 h2 (by simp)]; rfl
theorem A8T {F:Int->Int} (hF:B34 F) {es:List E} (h2:es.Pairwise ltE):((es.filter (A22 F)).map (B0f F)).Pairwise ltE:=by
 rw [Jj];have h3:(es.filter (A22 F)).Pairwise fun x y=>ltE x y∧A22 F x=true∧A22 F y=true:=by
  rw [List.pairwise_filter];exact h2.imp fun {x y} h hx hy=>⟨h,hx,hy⟩
 exact h3.imp fun {x y} h=>C2C hF h.2.1 h.2.2 h.1
theorem B4O {F:Int->Int} (hF:B34 F) {es:List E} (h1: ∀x,x∈es->x.a≤x.b) (h2:es.Pairwise ltE):A3c (B3z F es)=(es.filter (A22 F)).map (B0f F):=by
 rw [B84 hF h1 h2];exact C1c (A8T hF h2) (List.Perm.refl _)
def B85 (q:Int->Bool):List (Int×Int)->Int
 | []=>0
 | p::l=>(if q p.1=q p.2 then 0 else 1)+B85 q l
def A4w (q:Int->Bool):List (Int×Int)->Int
 | []=>0
 | p::l=>(if q p.1=true∧q p.2=true then 1 else 0)+A4w q l
theorem B2e (q:Int->Bool) (a b:List (Int×Int)):A4w q (a++b)=A4w q a+A4w q b:=by
 induction a with
 | nil=>simp [A4w]
 | cons x xs ih=>simp only [List.cons_append,A4w,ih]; omega
theorem B86 (q:Int->Bool) (p:Int×Int) (k:Nat):A4w q (List.replicate k p)=if q p.1=true∧q p.2=true then (k:Int) else 0:=by
 induction k with
 | zero=>simp [A4w]
 | succ k ih=>rw [List.replicate_succ]; simp only [A4w,ih]; split<;>omega
theorem B87 (set:List Int) (l:List (Int×Int)):((C1j set l).length:Int)=B85 (fun v=>decide (v∈set)) l:=by
 have key: ∀(l:List (Int×Int)) (k:Nat),((((l.zipIdx k).filterMap fun q=>if C1i set q.1 then some (q.2:Int) else none).length:Nat):Int)=B85 (fun v=>decide (v∈set)) l:=by
  intro l
  induction l with
  | nil=>intro k; rfl
  | cons p l ih=>
   intro k;rw [List.zipIdx_cons,List.filterMap_cons];simp only [B85];by_cases h:decide (p.1∈set)=decide (p.2∈set)
   ·rw [if_pos h];have hs:C1i set p=false:=by unfold C1i; rw [decide_eq_true h]; rfl
    simp only [hs,YZ,if_false];rw [ih]; omega
   ·rw [if_neg h];have hs:C1i set p=true:=by unfold C1i; rw [decide_eq_false h]; rfl
    simp only [hs,if_true,List.length_cons];have:=ih (k+1);omega
 exact key l 0
theorem C31 {q:Int->Bool} {n:Nat} {l:List (Int×Int)} (hr: ∀p,p∈l->(0≤p.1∧p.1<n)∧(0≤p.2∧p.2<n)):
  sumR (fun v=>if q v then A6G v l else 0) n=B85 q l+2*A4w q l:=by
 induction l with
 | nil=>simp only [A6G,B85,A4w]; rw [A1x fun _ _=>by simp]; rfl
 | cons p l ih=>
  have h1:=hr p (by simp);have h2:=ih fun x hx=>hr x (by simp [hx]);have h3:sumR (fun v=>if q v then A6G v (p::l) else 0) n=sumR (fun v=>if (v:Int)=p.1 then (if q p.1 then 1 else 0) else 0) n+sumR (fun v=>if (v:Int)=p.2 then (if q p.2 then 1 else 0) else 0) n+sumR (fun v=>if q v then A6G v l else 0) n:=by
   rw [<-A1A,<-A1A];refine A0w fun i _=> ?_;simp only [A6G,b2i];have c1:(if p.1=(i:Int) then (1:Int) else 0)=if (i:Int)=p.1 then 1 else 0:=by
    by_cases e:(i:Int)=p.1
    ·rw [if_pos e,if_pos e.symm]
    ·rw [if_neg e,if_neg fun h=>e h.symm]
   have c2:(if p.2=(i:Int) then (1:Int) else 0)=if (i:Int)=p.2 then 1 else 0:=by
    by_cases e:(i:Int)=p.2
    ·rw [if_pos e,if_pos e.symm]
    ·rw [if_neg e,if_neg fun h=>e h.symm]
   rw [c1,c2];have q1:(i:Int)=p.1->q p.1=q i:=fun e=>by rw [e]
   have q2:(i:Int)=p.2->q p.2=q i:=fun e=>by rw [e]
   by_cases e1:(i:Int)=p.1
   ·by_cases e2:(i:Int)=p.2
    ·rw [if_pos e1,if_pos e2,if_pos e1,if_pos e2,q1 e1,q2 e2]; split<;>omega
    ·rw [if_pos e1,if_neg e2,if_pos e1,if_neg e2,q1 e1]; split<;>omega
   ·by_cases e2:(i:Int)=p.2
    ·rw [if_neg e1,if_pos e2,if_neg e1,if_pos e2,q2 e2]; split<;>omega
    ·rw [if_neg e1,if_neg e2,if_neg e1,if_neg e2]; split<;>omega
  rw [h3,h2,A4d h1.1.1 h1.1.2,A4d h1.2.1 h1.2.2];simp only [B85,A4w];cases hq1:q p.1<;>cases hq2:q p.2<;>simp<;>omega
theorem B6m {q r:Int->Bool} {l:List (Int×Int)} (h: ∀p,p∈l->q p.1=r p.1∧q p.2=r p.2):B85 q l=B85 r l:=by
 induction l with
 | nil=>rfl
 | cons p l ih=>
  have h1:=h p (by simp);simp only [B85,ih fun x hx=>h x (by simp [hx]),h1.1,h1.2]
theorem B36 {q r:Int->Bool} {l:List (Int×Int)} (h: ∀p,p∈l->q p.1=r p.1∧q p.2=r p.2):A4w q l=A4w r l:=by
 induction l with
 | nil=>rfl
 | cons p l ih=>
  have h1:=h p (by simp);simp only [A4w,ih fun x hx=>h x (by simp [hx]),h1.1,h1.2]
theorem B4P {F:Int->Int} {es:List E} (hm: ∀x,x∈es->1≤x.m):(((endsL ((es.filter (A22 F)).map (B0f F))).length:Nat):Int)=A4w (fun v=>decide (0≤F v)) (endsL es):=by
 induction es with
 | nil=>rfl
 | cons x xs ih=>
  have h1:=hm x (by simp);have h2:=ih fun y hy=>hm y (by simp [hy]);rw [A7d,B2e,B86,<-h2];by_cases hb:A22 F x=true
  ·rw [Qx1 hb,Xk,A7d,Xv,Yx];have hb':=hb;simp only [A22,decide_eq_true_eq] at hb';rw [if_pos (by simpa using hb')];simp only [B0f]; omega
  ·rw [Qx2 hb,if_neg (by simpa [A22] using hb)]; omega
theorem A4s {α β:Type} {f g:α->Option β}: ∀{l:List α},(∀x,x∈l->f x=g x)->l.filterMap f=l.filterMap g
 | [],_=>rfl
 | x::xs,h=>by
  rw [List.filterMap_cons,List.filterMap_cons,h x (by simp),A4s fun y hy=>h y (by simp [hy])]
theorem B88 {s t:List Int} {l:List (Int×Int)} (h: ∀p,p∈l->C1i s p=C1i t p):C1j s l=C1j t l:=by
 unfold C1j;refine A4s fun q hq=> ?_;have:q.1∈l:=by
  obtain ⟨a,i⟩:=q;have:=List.mem_zipIdx hq;simp at this;rw [this.2]; exact Xw _
 rw [h _ this]
theorem B37 {g:G} {n:Nat} (hc:checkG g=0) (hn:g.n=n) (p:Int->Bool):
  B2O g (inL p n)=0∧B2O g (inL (fun v=> !p v) n)=0∧C1j (inL p n) (endsL g.es)=C1j (inL (fun v=> !p v) n) (endsL g.es)∧
  (inL p n=[]->C1j (inL p n) (endsL g.es)=[])∧
  (inL p n≠[]->indE g (inL p n)=0∧checkG (B7h g (inL p n))=0∧(B7h g (inL p n)).es.length≤g.es.length∧
   sumR (fun v=>if p v then A6G v (endsL g.es) else 0) n=(C1j (inL p n) (endsL g.es)).length+2*(endsL (B7h g (inL p n)).es).length):=by
 obtain ⟨h1,h2,h3⟩:=A0h.1 hc;have hsub: ∀q:Int->Bool,B2O g (inL q n)=0:=fun q=>by
  unfold B2O;rw [if_neg (by omega)];refine A8R (fun x hx=> ?_) (A5p _ _) (fun w hw=>by cases hw);have:=(A8Q.1 hx).1; omega
 have hr: ∀x,x∈endsL g.es->(0≤x.1∧x.1<n)∧(0≤x.2∧x.2<n):=fun x hx=>by
  obtain ⟨e,he,hx⟩:=Jz.1 hx;obtain rfl:=Qz6 hx;have:=h2 e he;unfold okE at this;simp only; omega
 have hmem: ∀(q:Int->Bool) (v:Int),0≤v->v<n->decide (v∈inL q n)=q v:=fun q v hv1 hv2=>by
  rw [Qj6]; simp [A8Q,hv1,hv2]
 refine ⟨hsub p,hsub _,?_,?_,?_⟩
 ·refine B88 fun x hx=> ?_;have:=hr x hx;unfold C1i;rw [hmem p x.1 (by omega) (by omega),hmem p x.2 (by omega) (by omega),hmem (fun v=> !p v) x.1 (by omega) (by omega),hmem (fun v=> !p v) x.2 (by omega) (by omega)];cases p x.1<;>cases p x.2<;>rfl
 ·intro e;rw [e];have:((C1j [] (endsL g.es)).length:Int)=0:=by
   rw [B87];generalize endsL g.es=l
   induction l with
   | nil=>rfl
   | cons x xs ih=>simp only [B85]; simp; simpa using ih
  exact Yq.1 (by omega)
 ·intro hne;have hF:B34 (A19 (inL p n)):=fun u v hu hv huv=>A8S (A5p _ _) hu hv huv;have hE:indE g (inL p n)=0:=by unfold indE; rw [if_neg (by rw [hsub]; simp),if_neg hne]
  have hlen:=C30 p n;have hl0:0<(inL p n).length:=Ww.2 hne;have hG:B7h g (inL p n)=⟨(inL p n).length,(g.es.filter (A22 (A19 (inL p n)))).map (B0f (A19 (inL p n)))⟩:=by
   unfold B7h;rw [if_neg (by rw [hE]; simp),B4O hF (fun x hx=>by have:=h2 x hx; unfold okE at this; omega) h3]
  refine ⟨hE,?_,?_,?_⟩
  ·rw [hG,A0h];refine ⟨by simp only; omega,fun e he=> ?_,A8T hF h3⟩;obtain ⟨x,hx,rfl⟩:=QJ.1 he;obtain ⟨hx,hb⟩:=ZV.1 hx;have hok:=h2 x hx;simp only [A22,decide_eq_true_eq] at hb;have hlt:=B30 (inL p n) x.b;have hab:A19 (inL p n) x.a≤A19 (inL p n) x.b:=by
    by_cases e:x.a=x.b
    ·rw [e]; omega
    ·have:=hF x.a x.b hb.1 hb.2 (by unfold okE at hok; omega); omega
   unfold okE at*;simp only [B0f]; omega
  ·rw [hG]; simp only [Zq]; exact Jy _ _
  ·rw [C31 hr,B87,hG];simp only;rw [B4P (fun x hx=>by have:=h2 x hx; unfold okE at this; omega)];rw [B6m (q:=p) (r:=fun v=>decide (v∈inL p n)),B36 (q:=p) (r:=fun v=>decide (0≤A19 (inL p n) v))]
   ·intro x hx;have:=hr x hx;have e: ∀v:Int,0≤v->v<n->p v=decide (0≤A19 (inL p n) v):=fun v hv1 hv2=>by
     rw [<-hmem p v hv1 hv2]; exact decide_eq_decide.2 (A7M _ _).symm
    exact ⟨e _ (by omega) (by omega),e _ (by omega) (by omega)⟩
   ·intro x hx;have:=hr x hx;exact ⟨(hmem p _ (by omega) (by omega)).symm,(hmem p _ (by omega) (by omega)).symm⟩
theorem B38 {f g:Nat->Int} {n:Nat} (h: ∀i,i<n->f i≤g i):sumR f n≤sumR g n:=by
 induction n with
 | zero=>exact Qx6 _
 | succ n ih=>simp only [sumR]; have:=ih fun i hi=>h i (by omega); have:=h n (by omega); omega
theorem B39 {f:Nat->Int} {n:Nat} (h: ∀i,i<n->0≤f i):0≤sumR f n:=by
 have:=B38 (f:=fun _=>0) (g:=f) h;rwa [A1x fun _ _=>rfl] at this
theorem B0T (f g:Nat->Int) (n:Nat):sumR (fun i=>f i-g i) n=sumR f n-sumR g n:=by
 induction n with
 | zero=>rfl
 | succ n ih=>simp only [sumR,ih]; omega
theorem A5q (c:Int) (n:Nat):sumR (fun _=>c) n=n*c:=by
 induction n with
 | zero=>simp [sumR]
 | succ n ih=>simp only [sumR,ih]; rw [Int.natCast_add,Int.add_mul]; simp
theorem B2f (f:Nat->Nat->Int) (n m:Nat):sumR (fun i=>sumR (f i) m) n=sumR (fun j=>sumR (fun i=>f i j) n) m:=by
 induction n with
 | zero=>simp only [sumR]; rw [A1x fun _ _=>rfl]
 | succ n ih=>simp only [sumR,ih]; rw [<-A1A]
theorem A8U {f:Nat->Int}: ∀{n:Nat},(∀i,i<n->0≤f i)-> ∀{j:Nat},j<n->f j≤sumR f n
 | 0,_,j,hj=>by omega
 | n+1,h,j,hj=>by
  simp only [sumR];by_cases e:j=n
  ·subst e; have:=B39 (f:=f) (n:=j) fun i hi=>h i (by omega); omega
  ·have:=A8U (n:=n) (fun i hi=>h i (by omega)) (j:=j) (by omega);have:=h n (by omega); omega
theorem A2N (c:Int) (j:Nat): ∀{n:Nat},j<n->sumR (fun i=>if i=j then c else 0) n=c
 | 0,h=>by omega
 | n+1,h=>by
  simp only [sumR];by_cases e:j=n
  ·subst e; rw [if_pos rfl,A1x fun i hi=>if_neg (by omega)]; omega
  ·rw [if_neg (by omega),A2N c j (n:=n) (by omega)]; omega
structure Mult (n:Nat) (M:Nat->Nat->Int):Prop where
 sym: ∀u v,M u v=M v u
 pos: ∀u v,0≤M u v
 dia: ∀v,M v v=0
 con: ∀S:Nat->Bool,(∃v,v<n∧S v=true)->(∃v,v<n∧S v=false)-> ∃u v,u<n∧v<n∧S u=true∧S v=false∧1≤M u v
def lap (n:Nat) (M:Nat->Nat->Int) (s:Nat->Int) (v:Nat):Int:=sumR (fun u=>M v u*(s v-s u)) n
def C69 (n:Nat) (M:Nat->Nat->Int) (D E:Nat->Int):Prop:= ∃s:Nat->Int,∀v,v<n->E v=D v-lap n M s v
section
variable {n:Nat} {M:Nat->Nat->Int}
end
def outA (n:Nat) (M:Nat->Nat->Int) (A:Nat->Bool) (v:Nat):Int:=sumR (fun u=>if A u=true then 0 else M v u) n
def inA (n:Nat) (M:Nat->Nat->Int) (A:Nat->Bool) (v:Nat):Int:=sumR (fun u=>if A u=true then M v u else 0) n
section
variable {n:Nat} {M:Nat->Nat->Int}
def reducedAt (n:Nat) (M:Nat->Nat->Int) (q:Nat) (D:Nat->Int):Prop:=(∀v,v<n->v≠q->0≤D v)∧ ∀A:Nat->Bool,A q=false->(∃v,v<n∧A v=true)-> ∃v,v<n∧A v=true∧D v<outA n M A v
theorem B6n (hM:Mult n M) {q:Nat} (hq:q<n): ∀k,1≤k->k≤n-> ∃L:List Nat,L.length=k∧L.Nodup∧(∀v,v∈L->v<n)∧L[0]? =some q∧ ∀i v,1≤i->L[i]? =some v-> ∃u,u∈L.take i∧1≤M v u:=by
 intro k
 induction k with
 | zero=>intro h; omega
 | succ k ih=>
  intro _ hk;rcases Qj2 k with h0 | h0
  ·subst h0;exact ⟨[q],rfl,by simp,by simpa using hq,rfl,fun i v hi hv=>by have:=(Qx.1 hv).1; simp at this; omega⟩
  ·obtain ⟨L,l1,l2,l3,l4,l5⟩:=ih h0 (by omega);have hout: ∃v,v<n∧v∉L:=by
    refine XZ fun hx=> ?_;have:=Wx (l₁:=List.range n) (l₂:=L) Qq4 fun v hv=>XZ fun h=>hx ⟨v,XQ.1 hv,h⟩;rw [Vj] at this; omega
   obtain ⟨w,hw,hwL⟩:=hout;obtain ⟨u,v,hu,hv,h1,h2,h3⟩:=hM.con (fun v=>decide (v∈L)) ⟨q,hq,decide_eq_true (Qy l4)⟩ ⟨w,hw,decide_eq_false hwL⟩;rw [decide_eq_true_eq] at h1;rw [decide_eq_false_iff_not] at h2;refine ⟨L++[v],by simp [l1],WX.2 ⟨l2,by simp,fun a ha b hb=>by simp at hb; subst hb; rintro rfl; exact h2 ha⟩,fun x hx=> ?_,by rw [Qv (by omega)]; exact l4,fun i x hi hx=> ?_⟩
   ·rcases XJ.1 hx with h | h
    ·exact l3 x h
    ·rw [Zz.1 h]; exact hv
   ·by_cases hil:i<L.length
    ·rw [Qv hil] at hx;obtain ⟨y,y1,y2⟩:=l5 i x hi hx;exact ⟨y,by rw [ZQ (by omega)]; exact y1,y2⟩
    ·have hi2:=(Qx.1 hx).1;simp at hi2;have hie:i=L.length:=by omega
     subst hie;rw [QV (QQ _)] at hx;simp at hx; subst hx;exact ⟨u,by rw [ZQ (QQ _),Zy]; exact h1,by rw [hM.sym]; exact h3⟩
end
section
variable {n:Nat} {M:Nat->Nat->Int}
end
section
variable {n:Nat} {M:Nat->Nat->Int}
theorem A8V {α β:Type} {f:α->β} {l:List α} (hl:l.Nodup) (hf: ∀x,x∈l-> ∀y,y∈l->f x=f y->x=y):(l.map f).Nodup:=by
 show List.Pairwise _ _;rw [Jj];exact List.Pairwise.imp_of_mem (fun {x y} hx hy h e=>h (hf x hx y hy e)) hl
def atI (l:List Int) (v:Nat):Int:=l.getD v 0
end
section
variable {n a b:Nat} {M:Nat->Nat->Int}
end
section
variable {n q:Nat} {M:Nat->Nat->Int} {c:Nat->Int}
def valM (n:Nat) (M:Nat->Nat->Int) (v:Nat):Int:=sumR (M v) n
def catchP (n:Nat) (M:Nat->Nat->Int) (c:Nat->Int) (L:List Nat) (v:Nat):Bool:=decide (v∉L)&&decide (valM n M v≤c v+inA n M (fun u=>decide (u∈L)) v)
def fireG (n:Nat) (M:Nat->Nat->Int) (c:Nat->Int):Nat->List Nat->List Nat
 | 0,L=>L
 | k+1,L=>match (List.range n).find? (catchP n M c L) with
  | some v=>fireG n M c k (L++[v])
  | none=>L
structure Burns (n:Nat) (M:Nat->Nat->Int) (c:Nat->Int) (q:Nat) (L:List Nat):Prop where
 nd:L.Nodup
 lt: ∀v,v∈L->v<n
 hd:L[0]? =some q
 ct: ∀i v,1≤i->L[i]? =some v->catchP n M c (L.take i) v=true
end
structure TourP (N:Nat) (f:Nat->Nat) (h0:Nat) (p:Nat->Nat):Prop where
 lt: ∀x,x<N->p x<N
 at_: ∀x,x<N->it f (p x) h0=x
 back: ∀i,i<N->p (it f i h0)=i
 pl: ∀i,it f i h0<N
 per:it f N h0=h0
 beg:h0<N
theorem C32 {N:Nat} {f:Nat->Nat} (hp:PermN N f) {h0:Nat} (h:h0<N) (hc: ∀x,x<N-> ∃i,x=it f i h0): ∃p,TourP N f h0 p:=by
 have hmod: ∀d,1≤d->it f d h0=h0-> ∀i,it f i h0=it f (i%d) h0:=fun d hd he i=>by
  have hk: ∀k,it f (d*k) h0=h0:=fun k=>by
   induction k with
   | zero=>rfl
   | succ k ih=>rw [Nat.mul_succ,A7w,he,ih]
  have:i=i%d+d*(i / d):=(Nat.mod_add_div i d).symm;have e:it f i h0=it f (i%d+d*(i / d)) h0:=by rw [<-this]
  rw [e,A7w,hk]
 have hmin: ∀d,1≤d->it f d h0=h0->N≤d:=fun d hd he=>by
  have:=Wx (l₁:=List.range N) (l₂:=(List.range d).map fun i=>it f i h0) Qq4 fun x hx=>by
   obtain ⟨i,hi⟩:=hc x (XQ.1 hx);exact QJ.2 ⟨i%d,XQ.2 (VZ _ (by omega)),by rw [hi,<-hmod d hd he i]⟩
  simpa using this
 obtain ⟨P,p1,p2,p3⟩:=hp.period h;have hPN:P=N:=by have:=hmin P p1 p3; omega
 subst hPN;have hex: ∀x,∃i,x<P->i<P∧it f i h0=x:=fun x=>by
  by_cases hx:x<P
  ·obtain ⟨i,hi⟩:=hc x hx;exact ⟨i%P,fun _=>⟨VZ _ (by omega),by rw [<-hmod P p1 p3 i,<-hi]⟩⟩
  ·exact ⟨0,fun h=>absurd h hx⟩
 obtain ⟨p,hpp⟩:=Classical.axiomOfChoice hex;refine ⟨p,fun x hx=>(hpp x hx).1,fun x hx=>(hpp x hx).2,fun i hi=> ?_,fun i=>hp.it_lt h i,p3,h⟩;have hxl:=hp.it_lt h i;obtain ⟨q1,q2⟩:=hpp _ hxl;have main: ∀a b:Nat,a<b->b<P->it f a h0=it f b h0->False:=fun a b hab hb e=>by
  have e2:it f b h0=it f a (it f (b-a) h0):=by rw [<-A7w]; congr 1; omega
  rw [e2] at e;have:=hp.it_inj h (hp.it_lt h _) a e;have:=hmin (b-a) (by omega) this.symm;omega
 rcases Qw6 (p (it f i h0)) i with q | q | q
 ·exact (main _ _ q hi q2).elim
 ·exact q
 ·exact (main _ _ q q1 q2.symm).elim
theorem C5e (x:Nat):oppH x / 2=x / 2:=by unfold oppH; omega
theorem B6o {x y:Nat} (h:x / 2=y / 2):x=y∨x=oppH y:=by unfold oppH; omega
theorem B0g {E x:Nat} (h:x<2*E):oppH x<2*E:=by unfold oppH; omega
def A7e (s:Nat->Nat) (t:Nat->Bool) (x:Nat):Nat:=if t (x / 2)=true then s (oppH x) else s x
structure STree (E n:Nat) (g:Nat->Nat) (t:Nat->Bool):Prop where
 tot:sumR (fun e=>if t e=true then 1 else 0) E=n-1
 few: ∀A:Nat->Bool,(∃v,v<n∧A v=true)->sumR (fun e=>if t e=true∧A (g (2*e))=true∧A (g (2*e+1))=true then 1 else 0) E≤sumR (fun v=>if A v=true then 1 else 0) n-1
 cut: ∀e,e<E->t e=true-> ∃A:Nat->Bool,A (g (2*e))=true∧A (g (2*e+1))=false∧ ∀f,f<E->t f=true->f≠e->A (g (2*f))=A (g (2*f+1))
def B6p (p:Nat->Nat) (e:Nat):Nat:=if p (2*e)<p (2*e+1) then 2*e else 2*e+1
def B3A (E:Nat) (g p:Nat->Nat) (t A:Nat->Bool):Int:=sumR (fun e=>if t e=false∧A (g (B6p p e))=true then 1 else 0) E
section
variable {E n:Nat} {s g:Nat->Nat} {t t':Nat->Bool} {p p':Nat->Nat} {h0:Nat}
end
end Go.Proofs.YtdbdfkohpjefjaaGreat
