/- A part of the proof. -/
import Derived.Test.YtdbdfkohpjefjaaGreatPart07
import Derived.Test.YtdbdfkohpjefjaaGreatPart08
set_option linter.all false
set_option maxHeartbeats 4000000
set_option maxRecDepth 100000
namespace Go.Proofs.YtdbdfkohpjefjaaGreat
open Go.Sp
def sumR (f:Nat->Int):Nat->Int
 | 0=>0
 | n+1=>sumR f n+f n
def A02 (f g:Nat->Int) (n:Nat):sumR (fun i=>f i+g i) n=sumR f n+sumR g n:=by
 induction n with
 | zero=>rfl
 | succ n ih=>simp only [sumR,ih]; omega
def A0H {f:Nat->Int} {n:Nat} (h: ∀i,i<n->f i=0):sumR f n=0:=by
 induction n with
 | zero=>rfl
 | succ n ih=>simp only [sumR,ih fun i hi=>h i (by omega),h n (by omega)]; rfl
def A0g {f g:Nat->Int} {n:Nat} (h: ∀i,i<n->f i=g i):sumR f n=sumR g n:=by
 induction n with
 | zero=>rfl
 | succ n ih=>simp only [sumR,ih fun i hi=>h i (by omega),h n (by omega)]
def B5P {c m:Int}: ∀{n:Nat},0≤c->c<n->sumR (fun i=>if (i:Int)=c then m else 0) n=m:=by
 intro n
 induction n with
 | zero=>intro h1 h2; omega
 | succ n ih=>
  intro h1 h2;simp only [sumR];by_cases e:(n:Int)=c
  ·rw [if_pos e,A0H (fun i hi=>if_neg (by omega))]; omega
  ·rw [if_neg e,ih h1 (by omega)]; omega
variable {es:List E}
def B48 (h:es.Pairwise ltE):distinctE es:=h.imp fun {x y} h=>by unfold ltE at h; unfold neE; omega
def B0H (x:E) (xs:List E):endsL (x::xs)=List.replicate x.m.toNat (x.a,x.b)++endsL xs:=by simp [endsL]
def inL (p:Int->Bool) (n:Nat):List Int:=((List.range n).map fun (i:Nat)=>(i:Int)).filter p
def C4V (p:Int->Bool) (n:Nat):(inL p n).length≤n:=by
 have:=WW p ((List.range n).map fun (i:Nat)=>(i:Int));simpa [inL] using this
def A9v {p:Int->Bool} {n:Nat} {x:Int}:x∈inL p n↔(0≤x∧x<n)∧p x=true:=by
 simp only [inL,ZV,QY,Xk];constructor
 ·rintro ⟨⟨i,hi,rfl⟩,h⟩; exact ⟨by omega,h⟩
 ·rintro ⟨h,h2⟩; exact ⟨⟨x.toNat,by omega,by omega⟩,h2⟩
def A57 (p:Int->Bool) (n:Nat):(inL p n).Pairwise (·< ·):=by
 refine List.Pairwise.filter _ ?_;rw [JQ];exact List.pairwise_lt_range.imp fun {a b} h=>by omega
def A9w {n:Int}: ∀{l:List Int} {u:Option Int},(∀x,x∈l->0≤x∧x<n)->l.Pairwise (·< ·)->(∀w,u=some w-> ∀x,x∈l->w<x)->A49 n u l=0
 | [],_,_,_,_=>rfl
 | x::xs,u,h1,h2,h3=>by
  have:=h1 x (by simp);have hp:=Jq.1 h2;simp only [A49];rw [if_neg (by omega),if_neg (by rintro ⟨w,hw,hx⟩; have:=h3 w hw x (by simp); omega)];refine A9w (fun y hy=>h1 y (by simp [hy])) hp.2 fun w hw y hy=> ?_;cases hw; exact hp.1 y hy
def A9x: ∀{l:List Int} {x y:Int},l.Pairwise (·< ·)->0≤A1A l x->0≤A1A l y->x<y->A1A l x<A1A l y
 | [],x,y,_,h,_,_=>by simp [A1A] at h
 | z ::zs,x,y,h,hx,hy,hxy=>by
  have hp:=Jq.1 h;simp only [A1A] at hx hy ⊢;by_cases ex:z=x
  ·subst ex;rw [if_pos rfl];rw [if_neg (by omega)] at hy ⊢;split at hy
   ·omega
   ·rw [if_neg (by omega)]; omega
  ·rw [if_neg ex] at hx ⊢;split at hx
   ·omega
   ·have hxm:x∈zs:=(A8p zs x).1 (by omega);have:=hp.1 x hxm;rw [if_neg (by omega)] at hy ⊢;split at hy
    ·omega
    ·have:=A9x hp.2 (x:=x) (y:=y) (by omega) (by omega) hxy;rw [if_neg (by omega),if_neg (by omega)]; omega
def B0I (F:Int->Int) (x:E):E:=⟨F x.a,F x.b,x.m⟩
def A2B (F:Int->Int) (x:E):Bool:=decide (0≤F x.a∧0≤F x.b)
def B70 {a b m:Int} (h: ∀x,x∈es-> ¬(x.a=a∧x.b=b)):A19 es a b m=es++[⟨a,b,m⟩]:=by
 induction es with
 | nil=>rfl
 | cons x xs ih=>simp only [A19]; rw [if_neg (h x (by simp)),ih fun y hy=>h y (by simp [hy])]; rfl
def B49 (F:Int->Int):Prop:= ∀u v,0≤F u->0≤F v->u<v->F u<F v
variable {F:Int->Int}
def C4a (hF:B49 F) {x y:E} (hx:A2B F x=true) (hy:A2B F y=true) (h:ltE x y):ltE (B0I F x) (B0I F y):=by
 simp only [A2B,decide_eq_true_eq] at hx hy;unfold ltE B0I at*;simp only;rcases h with h | ⟨h,h2⟩
 ·exact .inl (hF _ _ hx.1 hy.1 h)
 ·exact .inr ⟨by rw [h],hF _ _ hx.2 hy.2 h2⟩
def B4A (hF:B49 F): ∀(es acc:List E),(∀x,x∈es->x.a≤x.b)->es.Pairwise ltE->(∀y,y∈acc-> ∀x,x∈es->A2B F x=true->ltE y (B0I F x))->
  es.foldl (A3k F) acc=acc++(es.filter (A2B F)).map (B0I F)
 | [],acc,_,_,_=>by simp
 | x ::xs,acc,h1,h2,h3=>by
  have hp:=Jq.1 h2;have hx:=h1 x (by simp);simp only [List.foldl_cons];by_cases hb:A2B F x=true
  ·have hb':=hb;simp only [A2B,decide_eq_true_eq] at hb';have hab:F x.a≤F x.b:=by
    by_cases e:x.a=x.b
    ·rw [e]; omega
    ·have:=hF x.a x.b hb'.1 hb'.2 (by omega); omega
   have e1:min (F x.a) (F x.b)=F x.a:=by omega
   have e2:max (F x.a) (F x.b)=F x.b:=by omega
   have e:A3k F acc x=acc++[B0I F x]:=by
    unfold A3k;rw [if_pos hb',e1,e2,B70 fun y hy=> ?_]
    ·rfl
    ·have:=h3 y hy x (by simp) hb;unfold ltE B0I at this;simp only at this; omega
   rw [e,B4A hF xs _ (fun y hy=>h1 y (by simp [hy])) hp.2 (fun y hy z hz hzb=> ?_),Qz0 hb]
   ·simp
   ·rcases XZ.1 hy with hy | hy
    ·exact h3 y hy z (by simp [hz]) hzb
    ·obtain rfl:=XQ.1 hy;exact C4a hF hb hzb (hp.1 z hz)
  ·have e:A3k F acc x=acc:=by
    unfold A3k; exact if_neg (by simpa [A2B] using hb)
   rw [e,B4A hF xs _ (fun y hy=>h1 y (by simp [hy])) hp.2 (fun y hy z hz hzb=>h3 y hy z (by simp [hz]) hzb),Qz1 hb]
def B9E (hF:B49 F) {es:List E} (h1: ∀x,x∈es->x.a≤x.b) (h2:es.Pairwise ltE):B40 F es=(es.filter (A2B F)).map (B0I F):=by
 unfold B40;rw [B4A hF es [] h1 h2 (by simp)]; rfl
def A9y (hF:B49 F) {es:List E} (h2:es.Pairwise ltE):((es.filter (A2B F)).map (B0I F)).Pairwise ltE:=by
 rw [JQ];have h3:(es.filter (A2B F)).Pairwise fun x y=>ltE x y∧A2B F x=true∧A2B F y=true:=by
  rw [List.pairwise_filter];exact h2.imp fun {x y} h hx hy=>⟨h,hx,hy⟩
 exact h3.imp fun {x y} h=>C4a hF h.2.1 h.2.2 h.1
def B5Q (hF:B49 F) {es:List E} (h1: ∀x,x∈es->x.a≤x.b) (h2:es.Pairwise ltE):A3i (B40 F es)=(es.filter (A2B F)).map (B0I F):=by
 rw [B9E hF h1 h2];exact C2z (A9y hF h2) (List.Perm.refl _)
def B9F (q:Int->Bool):List (Int×Int)->Int
 | []=>0
 | p::l=>(if q p.1=q p.2 then 0 else 1)+B9F q l
def A47 (q:Int->Bool):List (Int×Int)->Int
 | []=>0
 | p::l=>(if q p.1=true∧q p.2=true then 1 else 0)+A47 q l
def B3e (q:Int->Bool) (a b:List (Int×Int)):A47 q (a++b)=A47 q a+A47 q b:=by
 induction a with
 | nil=>simp [A47]
 | cons x xs ih=>simp only [List.cons_append,A47,ih]; omega
def B9G (q:Int->Bool) (p:Int×Int) (k:Nat):A47 q (List.replicate k p)=if q p.1=true∧q p.2=true then (k:Int) else 0:=by
 induction k with
 | zero=>simp [A47]
 | succ k ih=>rw [List.replicate_succ]; simp only [A47,ih]; split<;>omega
def B9H (set:List Int) (l:List (Int×Int)):((C2A set l).length:Int)=B9F (fun v=>decide (v∈set)) l:=by
 have key: ∀(l:List (Int×Int)) (k:Nat),((((l.zipIdx k).filterMap fun q=>if C29 set q.1 then some (q.2:Int) else none).length:Nat):Int)=B9F (fun v=>decide (v∈set)) l:=by
  intro l
  induction l with
  | nil=>intro k; rfl
  | cons p l ih=>
   intro k;rw [List.zipIdx_cons,List.filterMap_cons];simp only [B9F];by_cases h:decide (p.1∈set)=decide (p.2∈set)
   ·rw [if_pos h];have hs:C29 set p=false:=by unfold C29; rw [decide_eq_true h]; rfl
    simp only [hs,Yk,if_false];rw [ih]; omega
   ·rw [if_neg h];have hs:C29 set p=true:=by unfold C29; rw [decide_eq_false h]; rfl
    simp only [hs,if_true,List.length_cons];have:=ih (k+1);omega
 exact key l 0
def C4W {q:Int->Bool} {n:Nat} {l:List (Int×Int)} (hr: ∀p,p∈l->(0≤p.1∧p.1<n)∧(0≤p.2∧p.2<n)):
  sumR (fun v=>if q v then C4Q v l else 0) n=B9F q l+2*A47 q l:=by
 induction l with
 | nil=>simp only [C4Q,B9F,A47]; rw [A0H fun _ _=>by simp]; rfl
 | cons p l ih=>
  have h1:=hr p (by simp);have h2:=ih fun x hx=>hr x (by simp [hx]);have h3:sumR (fun v=>if q v then C4Q v (p::l) else 0) n=sumR (fun v=>if (v:Int)=p.1 then (if q p.1 then 1 else 0) else 0) n+sumR (fun v=>if (v:Int)=p.2 then (if q p.2 then 1 else 0) else 0) n+sumR (fun v=>if q v then C4Q v l else 0) n:=by
   rw [<-A02,<-A02];refine A0g fun i _=> ?_;simp only [C4Q,b2i];have c1:(if p.1=(i:Int) then (1:Int) else 0)=if (i:Int)=p.1 then 1 else 0:=by
    by_cases e:(i:Int)=p.1
    ·rw [if_pos e,if_pos e.symm]
    ·rw [if_neg e,if_neg fun h=>e h.symm]
   have c2:(if p.2=(i:Int) then (1:Int) else 0)=if (i:Int)=p.2 then 1 else 0:=by
    by_cases e:(i:Int)=p.2
    ·rw [if_pos e,if_pos e.symm]
    ·rw [if_neg e,if_neg fun h=>e h.symm]
   rw [c1,c2];have q1:(i:Int)=p.1->q p.1=q i:=fun e=>by rw [e]
   have q2:(i:Int)=p.2->q p.2=q i:=fun e=>by rw [e]
   by_cases e1:(i:Int)=p.1
   ·by_cases e2:(i:Int)=p.2
    ·rw [if_pos e1,if_pos e2,if_pos e1,if_pos e2,q1 e1,q2 e2]; split<;>omega
    ·rw [if_pos e1,if_neg e2,if_pos e1,if_neg e2,q1 e1]; split<;>omega
   ·by_cases e2:(i:Int)=p.2
    ·rw [if_neg e1,if_pos e2,if_neg e1,if_pos e2,q2 e2]; split<;>omega
    ·rw [if_neg e1,if_neg e2,if_neg e1,if_neg e2]; split<;>omega
  rw [h3,h2,B5P h1.1.1 h1.1.2,B5P h1.2.1 h1.2.2];simp only [B9F,A47];cases hq1:q p.1<;>cases hq2:q p.2<;>simp<;>omega
def B71 {q r:Int->Bool} {l:List (Int×Int)} (h: ∀p,p∈l->q p.1=r p.1∧q p.2=r p.2):B9F q l=B9F r l:=by
 induction l with
 | nil=>rfl
 | cons p l ih=>
  have h1:=h p (by simp);simp only [B9F,ih fun x hx=>h x (by simp [hx]),h1.1,h1.2]
def B4B {q r:Int->Bool} {l:List (Int×Int)} (h: ∀p,p∈l->q p.1=r p.1∧q p.2=r p.2):A47 q l=A47 r l:=by
 induction l with
 | nil=>rfl
 | cons p l ih=>
  have h1:=h p (by simp);simp only [A47,ih fun x hx=>h x (by simp [hx]),h1.1,h1.2]
def B5R (hm: ∀x,x∈es->1≤x.m):(((endsL ((es.filter (A2B F)).map (B0I F))).length:Nat):Int)=A47 (fun v=>decide (0≤F v)) (endsL es):=by
 induction es with
 | nil=>rfl
 | cons x xs ih=>
  have h1:=hm x (by simp);have h2:=ih fun y hy=>hm y (by simp [hy]);rw [B0H,B3e,B9G,<-h2];by_cases hb:A2B F x=true
  ·rw [Qz0 hb,XY,B0H,Xv,Yj];have hb':=hb;simp only [A2B,decide_eq_true_eq] at hb';rw [if_pos (by simpa using hb')];simp only [B0I]; omega
  ·rw [Qz1 hb,if_neg (by simpa [A2B] using hb)]; omega
def A44 {α β:Type} {f g:α->Option β}: ∀{l:List α},(∀x,x∈l->f x=g x)->l.filterMap f=l.filterMap g
 | [],_=>rfl
 | x::xs,h=>by
  rw [List.filterMap_cons,List.filterMap_cons,h x (by simp),A44 fun y hy=>h y (by simp [hy])]
def B9I {s t:List Int} {l:List (Int×Int)} (h: ∀p,p∈l->C29 s p=C29 t p):C2A s l=C2A t l:=by
 unfold C2A;refine A44 fun q hq=> ?_;have:q.1∈l:=by
  obtain ⟨a,i⟩:=q;have:=List.mem_zipIdx hq;simp at this;rw [this.2]; exact Xw _
 rw [h _ this]
def B4C {g:G} {n:Nat} (hc:checkG g=0) (hn:g.n=n) (p:Int->Bool):
  B3P g (inL p n)=0∧B3P g (inL (fun v=> !p v) n)=0∧C2A (inL p n) (endsL g.es)=C2A (inL (fun v=> !p v) n) (endsL g.es)∧
  (inL p n=[]->C2A (inL p n) (endsL g.es)=[])∧
  (inL p n≠[]->indE g (inL p n)=0∧checkG (B8i g (inL p n))=0∧(B8i g (inL p n)).es.length≤g.es.length∧
   sumR (fun v=>if p v then C4Q v (endsL g.es) else 0) n=(C2A (inL p n) (endsL g.es)).length+2*(endsL (B8i g (inL p n)).es).length):=by
 obtain ⟨h1,h2,h3⟩:=A0h.1 hc;have hsub: ∀q:Int->Bool,B3P g (inL q n)=0:=fun q=>by
  unfold B3P;rw [if_neg (by omega)];refine A9w (fun x hx=> ?_) (A57 _ _) (fun w hw=>by cases hw);have:=(A9v.1 hx).1; omega
 have hr: ∀x,x∈endsL g.es->(0≤x.1∧x.1<n)∧(0≤x.2∧x.2<n):=fun x hx=>by
  obtain ⟨e,he,hx⟩:=Jy.1 hx;obtain rfl:=Qw7 hx;have:=h2 e he;unfold okE at this;simp only; omega
 have hmem: ∀(q:Int->Bool) (v:Int),0≤v->v<n->decide (v∈inL q n)=q v:=fun q v hv1 hv2=>by
  rw [Qj2]; simp [A9v,hv1,hv2]
 refine ⟨hsub p,hsub _,?_,?_,?_⟩
 ·refine B9I fun x hx=> ?_;have:=hr x hx;unfold C29;rw [hmem p x.1 (by omega) (by omega),hmem p x.2 (by omega) (by omega),hmem (fun v=> !p v) x.1 (by omega) (by omega),hmem (fun v=> !p v) x.2 (by omega) (by omega)];cases p x.1<;>cases p x.2<;>rfl
 ·intro e;rw [e];have:((C2A [] (endsL g.es)).length:Int)=0:=by
   rw [B9H];generalize endsL g.es=l
   induction l with
   | nil=>rfl
   | cons x xs ih=>simp only [B9F]; simp; simpa using ih
  exact ZY.1 (by omega)
 ·intro hne;have hF:B49 (A1A (inL p n)):=fun u v hu hv huv=>A9x (A57 _ _) hu hv huv;have hE:indE g (inL p n)=0:=by unfold indE; rw [if_neg (by rw [hsub]; simp),if_neg hne]
  have hlen:=C4V p n;have hl0:0<(inL p n).length:=Wy.2 hne;have hG:B8i g (inL p n)=⟨(inL p n).length,(g.es.filter (A2B (A1A (inL p n)))).map (B0I (A1A (inL p n)))⟩:=by
   unfold B8i;rw [if_neg (by rw [hE]; simp),B5Q hF (fun x hx=>by have:=h2 x hx; unfold okE at this; omega) h3]
  refine ⟨hE,?_,?_,?_⟩
  ·rw [hG,A0h];refine ⟨by simp only; omega,fun e he=> ?_,A9y hF h3⟩;obtain ⟨x,hx,rfl⟩:=QY.1 he;obtain ⟨hx,hb⟩:=ZV.1 hx;have hok:=h2 x hx;simp only [A2B,decide_eq_true_eq] at hb;have hlt:=B41 (inL p n) x.b;have hab:A1A (inL p n) x.a≤A1A (inL p n) x.b:=by
    by_cases e:x.a=x.b
    ·rw [e]; omega
    ·have:=hF x.a x.b hb.1 hb.2 (by unfold okE at hok; omega); omega
   unfold okE at*;simp only [B0I]; omega
  ·rw [hG]; simp only [XW]; exact WW _ _
  ·rw [C4W hr,B9H,hG];simp only;rw [B5R (fun x hx=>by have:=h2 x hx; unfold okE at this; omega)];rw [B71 (q:=p) (r:=fun v=>decide (v∈inL p n)),B4B (q:=p) (r:=fun v=>decide (0≤A1A (inL p n) v))]
   ·intro x hx;have:=hr x hx;have e: ∀v:Int,0≤v->v<n->p v=decide (0≤A1A (inL p n) v):=fun v hv1 hv2=>by
     rw [<-hmem p v hv1 hv2]; exact decide_eq_decide.2 (A8p _ _).symm
    exact ⟨e _ (by omega) (by omega),e _ (by omega) (by omega)⟩
   ·intro x hx;have:=hr x hx;exact ⟨(hmem p _ (by omega) (by omega)).symm,(hmem p _ (by omega) (by omega)).symm⟩
def A3J {f g:Nat->Int} {n:Nat} (h: ∀i,i<n->f i≤g i):sumR f n≤sumR g n:=by
 induction n with
 | zero=>exact Jj _
 | succ n ih=>simp only [sumR]; have:=ih fun i hi=>h i (by omega); have:=h n (by omega); omega
def A1W {f:Nat->Int} {n:Nat} (h: ∀i,i<n->0≤f i):0≤sumR f n:=by
 have:=A3J (f:=fun _=>0) (g:=f) h;rwa [A0H fun _ _=>rfl] at this
def A1M (f g:Nat->Int) (n:Nat):sumR (fun i=>f i-g i) n=sumR f n-sumR g n:=by
 induction n with
 | zero=>rfl
 | succ n ih=>simp only [sumR,ih]; omega
def A4s (c:Int) (f:Nat->Int) (n:Nat):sumR (fun i=>c*f i) n=c*sumR f n:=by
 induction n with
 | zero=>simp [sumR]
 | succ n ih=>simp only [sumR,ih,Int.mul_add]
def A2b (c:Int) (n:Nat):sumR (fun _=>c) n=n*c:=by
 induction n with
 | zero=>simp [sumR]
 | succ n ih=>simp only [sumR,ih]; rw [Int.natCast_add,Int.add_mul]; simp
def A3m (f:Nat->Nat->Int) (n m:Nat):sumR (fun i=>sumR (f i) m) n=sumR (fun j=>sumR (fun i=>f i j) n) m:=by
 induction n with
 | zero=>simp only [sumR]; rw [A0H fun _ _=>rfl]
 | succ n ih=>simp only [sumR,ih]; rw [<-A02]
def A1i {f:Nat->Int}: ∀{n:Nat},(∀i,i<n->0≤f i)-> ∀{j:Nat},j<n->f j≤sumR f n
 | 0,_,j,hj=>by omega
 | n+1,h,j,hj=>by
  simp only [sumR];by_cases e:j=n
  ·subst e; have:=A1W (f:=f) (n:=j) fun i hi=>h i (by omega); omega
  ·have:=A1i (n:=n) (fun i hi=>h i (by omega)) (j:=j) (by omega);have:=h n (by omega); omega
def A0E (c:Int) (j:Nat): ∀{n:Nat},j<n->sumR (fun i=>if i=j then c else 0) n=c
 | 0,h=>by omega
 | n+1,h=>by
  simp only [sumR];by_cases e:j=n
  ·subst e; rw [if_pos rfl,A0H fun i hi=>if_neg (by omega)]; omega
  ·rw [if_neg (by omega),A0E c j (n:=n) (by omega)]; omega
structure Mult (n:Nat) (M:Nat->Nat->Int):Prop where
 sym: ∀u v,M u v=M v u
 pos: ∀u v,0≤M u v
 dia: ∀v,M v v=0
 con: ∀S:Nat->Bool,(∃v,v<n∧S v=true)->(∃v,v<n∧S v=false)-> ∃u v,u<n∧v<n∧S u=true∧S v=false∧1≤M u v
def lap (n:Nat) (M:Nat->Nat->Int) (s:Nat->Int) (v:Nat):Int:=sumR (fun u=>M v u*(s v-s u)) n
def B1F (n:Nat) (M:Nat->Nat->Int) (D E:Nat->Int):Prop:= ∃s:Nat->Int,∀v,v<n->E v=D v-lap n M s v
section
variable {n:Nat} {M:Nat->Nat->Int}
def A7z (s t:Nat->Int) (v:Nat):lap n M (fun u=>s u+t u) v=lap n M s v+lap n M t v:=by
 unfold lap; rw [<-A02];exact A0g fun u _=>by rw [<-Int.mul_add]; congr 1; dsimp only; omega
def B4D (s:Nat->Int) (v:Nat):lap n M (fun u=> -s u) v= -lap n M s v:=by
 unfold lap;have:sumR (fun u=>M v u*(-s v- -s u)) n=sumR (fun u=>(-1)*(M v u*(s v-s u))) n:=A0g fun u _=>by
  rw [show -s v- -s u= -(s v-s u) by omega,Int.mul_neg]; omega
 rw [this,A4s]; omega
def C4X (h:Mult n M) (s:Nat->Int):sumR (lap n M s) n=0:=by
 have e1:sumR (lap n M s) n=sumR (fun v=>sumR (fun u=>M v u*s v) n) n-sumR (fun v=>sumR (fun u=>M v u*s u) n) n:=by
  rw [<-A1M];exact A0g fun v _=>by unfold lap; rw [<-A1M]; exact A0g fun u _=>by rw [Int.mul_sub]
 have e2:sumR (fun v=>sumR (fun u=>M v u*s u) n) n=sumR (fun v=>sumR (fun u=>M v u*s v) n) n:=by
  rw [A3m];exact A0g fun v _=>A0g fun u _=>by rw [h.sym]
 omega
def B1F.refl (D:Nat->Int):B1F n M D D:=⟨fun _=>0,fun v _=>by unfold lap; rw [A0H fun u _=>by simp]; omega⟩
def B1F.symm {D E:Nat->Int} (h:B1F n M D E):B1F n M E D:=by
 obtain ⟨s,hs⟩:=h;exact ⟨fun u=> -s u,fun v hv=>by rw [B4D,hs v hv]; omega⟩
def B1F.trans {D E F:Nat->Int} (h:B1F n M D E) (h':B1F n M E F):B1F n M D F:=by
 obtain ⟨s,hs⟩:=h; obtain ⟨t,ht⟩:=h';exact ⟨fun u=>s u+t u,fun v hv=>by rw [A7z,ht v hv,hs v hv]; omega⟩
def B1F.deg (hM:Mult n M) {D E:Nat->Int} (h:B1F n M D E):sumR E n=sumR D n:=by
 obtain ⟨s,hs⟩:=h;rw [A0g hs,A1M,C4X hM]; omega
def B1F.of_eq {D E:Nat->Int} (h: ∀v,v<n->E v=D v):B1F n M D E:=by
 obtain ⟨s,hs⟩:=B1F.refl (n:=n) (M:=M) D;exact ⟨s,fun v hv=>by rw [h v hv]; exact hs v hv⟩
def A70 (s:Nat->Int): ∀{n:Nat},0<n-> ∃v,v<n∧ ∀u,u<n->s u≤s v
 | 0,h=>by omega
 | 1,_=>⟨0,by omega,fun u hu=>by rw [show u=0 by omega]; exact Jj _⟩
 | n+2,_=>by
  obtain ⟨v,h1,h2⟩:=A70 s (n:=n+1) (by omega);by_cases h:s v≤s (n+1)
  ·exact ⟨n+1,by omega,fun u hu=>by
    by_cases e:u=n+1
    ·rw [e]; exact Jj _
    ·have:=h2 u (by omega); omega⟩
  ·exact ⟨v,by omega,fun u hu=>by
    by_cases e:u=n+1
    ·rw [e]; omega
    ·exact h2 u (by omega)⟩
end
def B2m (A:Nat->Bool) (v:Nat):Int:=if A v=true then 1 else 0
def outA (n:Nat) (M:Nat->Nat->Int) (A:Nat->Bool) (v:Nat):Int:=sumR (fun u=>if A u=true then 0 else M v u) n
def inA (n:Nat) (M:Nat->Nat->Int) (A:Nat->Bool) (v:Nat):Int:=sumR (fun u=>if A u=true then M v u else 0) n
section
variable {n:Nat} {M:Nat->Nat->Int}
def B9J (t:Int) (A:Nat->Bool) (v:Nat):lap n M (fun u=>t*B2m A u) v=if A v=true then t*outA n M A v else-(t*inA n M A v):=by
 unfold lap B2m;cases h:A v with
 | true=>
  rw [if_pos rfl];unfold outA;rw [<-A4s];refine A0g fun u _=> ?_
  (try dsimp only)
  rw [h,if_pos rfl];cases A u<;>simp [Qv0]
 | false=>
  rw [if_neg (by simp)];unfold inA;rw [<-A4s];have:sumR (fun u=>M v u*(t*(if A v=true then 1 else 0)-t*if A u=true then 1 else 0)) n=sumR (fun u=> -1*(t*if A u=true then M v u else 0)) n:=A0g fun u _=>by
   rw [h,if_neg (by simp)];cases A u
   ·simp
   ·simp only [if_true,Qv2,Int.zero_sub,Int.mul_one,Int.mul_neg]; rw [Qv0 t]; omega
  rw [this,A4s]; omega
def B0J (hM:Mult n M) (A:Nat->Bool) (v:Nat):0≤inA n M A v:=A1W fun u _=>by have:=hM.pos v u; split<;>omega
def C6F (hM:Mult n M) (A:Nat->Bool) {u v:Nat} (hu:u<n) (hA:A u=true):M v u≤inA n M A v:=by
 have:=A1i (f:=fun u=>if A u=true then M v u else 0) (n:=n) (fun i _=>by have:=hM.pos v i; split<;>omega) hu;rwa [if_pos hA] at this
def C4Y (hM:Mult n M) {D s:Nat->Int} {q:Nat} (hq:q<n) (hw: ∀v,v<n->v≠q->0≤D v-lap n M s v) {P:Int} (hP:sumR (fun v=>if v=q then 0 else max 0 (D v)) n≤P) {c:Int} (hc:s q≤c) (hex: ∃v,v<n∧c<s v):
  ∃v,v<n∧c<s v∧s v≤c+P:=by
 obtain ⟨v0,hv0,hcv0⟩:=hex;obtain ⟨v,u,hv,hu,hSv,hSu,hm⟩:=hM.con (fun v=>decide (c<s v)) ⟨v0,hv0,decide_eq_true hcv0⟩ ⟨q,hq,decide_eq_false (by omega)⟩;rw [decide_eq_true_eq] at hSv;rw [decide_eq_false_iff_not] at hSu;refine ⟨v,hv,hSv,?_⟩;have e1:sumR (fun v=>if c<s v then lap n M s v else 0) n≤P:=by
  refine Qw9 (A3J fun v hv=> ?_) hP;split
  ·have hne:v≠q:=by rintro rfl; omega
   have:=hw v hv hne;rw [if_neg hne];have:=Int.le_max_right 0 (D v);omega
  ·split
   ·exact Jj _
   ·exact Int.le_max_left _ _
 have e2:sumR (fun v=>if c<s v then lap n M s v else 0) n=sumR (fun v=>sumR (fun u=>if c<s v∧ ¬c<s u then M v u*(s v-s u) else 0) n) n:=by
  have h1:sumR (fun v=>if c<s v then lap n M s v else 0) n=sumR (fun v=>sumR (fun u=>if c<s v∧ ¬c<s u then M v u*(s v-s u) else 0) n+sumR (fun u=>if c<s v∧c<s u then M v u*(s v-s u) else 0) n) n:=A0g fun v _=>by
   rw [<-A02];split
   ·rename_i h;unfold lap;refine A0g fun u _=> ?_;by_cases h2:c<s u
    ·rw [if_neg (fun q=>q.2 h2),if_pos ⟨h,h2⟩]; omega
    ·rw [if_pos ⟨h,h2⟩,if_neg (fun q=>h2 q.2)]; omega
   ·rename_i h;rw [A0H fun u _=> ?_];rw [if_neg (fun q=>h q.1),if_neg (fun q=>h q.1)]; rfl
  have h2:sumR (fun v=>sumR (fun u=>if c<s v∧c<s u then M v u*(s v-s u) else 0) n) n=sumR (fun v=>sumR (fun u=> -1*if c<s v∧c<s u then M v u*(s v-s u) else 0) n) n:=by
   conv=>lhs; rw [A3m]
   refine A0g fun v _=>A0g fun u _=> ?_;by_cases h:c<s u∧c<s v
   ·rw [if_pos h,if_pos h.symm,hM.sym u v,Int.neg_mul,Int.one_mul,<-Int.mul_neg]; congr 1; omega
   ·rw [if_neg h,if_neg (fun q=>h q.symm)]; rfl
  have h3:sumR (fun v=>sumR (fun u=> -1*if c<s v∧c<s u then M v u*(s v-s u) else 0) n) n= -1*sumR (fun v=>sumR (fun u=>if c<s v∧c<s u then M v u*(s v-s u) else 0) n) n:=by
   rw [<-A4s];exact A0g fun v _=>by rw [A4s]
  rw [h1,A02];omega
 have nn: ∀v u,v<n->u<n->0≤(if c<s v∧ ¬c<s u then M v u*(s v-s u) else 0):=fun v u _ _=>by
  split
  ·exact Qj7 (hM.pos v u) (by omega)
  ·exact Jj _
 have e3:(if c<s v∧ ¬c<s u then M v u*(s v-s u) else 0)≤sumR (fun u=>if c<s v∧ ¬c<s u then M v u*(s v-s u) else 0) n:=A1i (f:=fun u=>if c<s v∧ ¬c<s u then M v u*(s v-s u) else 0) (fun i hi=>nn v i hv hi) hu;have e4:sumR (fun u=>if c<s v∧ ¬c<s u then M v u*(s v-s u) else 0) n≤sumR (fun v=>sumR (fun u=>if c<s v∧ ¬c<s u then M v u*(s v-s u) else 0) n) n:=A1i (f:=fun v=>sumR (fun u=>if c<s v∧ ¬c<s u then M v u*(s v-s u) else 0) n) (fun i hi=>A1W fun j hj=>nn i j hi hj) hv;rw [if_pos ⟨hSv,hSu⟩] at e3;have e5:1*(s v-s u)≤M v u*(s v-s u):=Int.mul_le_mul_of_nonneg_right hm (by omega);omega
def A7S {p r:Nat->Bool}: ∀{l:List Nat},(∀x,x∈l->p x=true->r x=true)->(∃x,x∈l∧r x=true∧p x=false)->l.countP p<l.countP r
 | [],_,⟨x,hx,_⟩=>by cases hx
 | a::l,h,⟨x,hx,h1,h2⟩=>by
  rw [Qx2,Qx2];have hle:l.countP p≤l.countP r:=List.countP_mono_left fun y hy hp=>h y (by simp [hy]) hp;rcases QV.1 hx with rfl | hx
  ·rw [h1,h2]; simp; omega
  ·have:=A7S (l:=l) (fun y hy=>h y (by simp [hy])) ⟨x,hx,h1,h2⟩;have ha:=h a (by simp);cases hp:p a with
   | true=>rw [ha hp]; simp; omega
   | false=>cases r a<;>simp<;>omega
def C4Z (hM:Mult n M) {D s:Nat->Int} {q:Nat} (hq:q<n) (hw: ∀v,v<n->v≠q->0≤D v-lap n M s v) {P:Int} (hP:sumR (fun v=>if v=q then 0 else max 0 (D v)) n≤P): ∀v,v<n->s v≤s q+n*P:=by
 have hP0:0≤P:=by
  refine Qw9 (A1W fun v _=> ?_) hP
  (try dsimp only); split
  ·exact Jj _
  ·exact Int.le_max_left _ _
 have key: ∀k:Nat,k≤n->(List.range n).countP (fun v=>decide (s q+k*P<s v))+k≤n∨(List.range n).countP (fun v=>decide (s q+k*P<s v))=0:=by
  intro k
  induction k with
  | zero=>intro _; left; exact Yw (Nat.add_le_add_right List.countP_le_length 0) (by simp)
  | succ k ih=>
   intro hk;by_cases hx: ∃v,v<n∧s q+k*P<s v
   ·obtain ⟨v,hv,h1,h2⟩:=C4Y hM hq hw hP (c:=s q+k*P) (by have:=Qj7 (show 0≤(k:Int) by omega) hP0; omega) hx;have e:((k+1:Nat):Int)*P=k*P+P:=by rw [Int.natCast_add,Int.add_mul]; simp
    have:=A7S (p:=fun v=>decide (s q+(k+1:Nat)*P<s v)) (r:=fun v=>decide (s q+k*P<s v)) (l:=List.range n) (fun x _ hp=>by
     rw [decide_eq_true_eq] at hp ⊢; omega) ⟨v,Xk.2 hv,decide_eq_true h1,decide_eq_false (by omega)⟩
    left;rcases ih (by omega) with h | h<;>omega
   ·right;rw [List.countP_eq_zero];intro v hv;rw [decide_eq_true_eq];have e:((k+1:Nat):Int)*P=k*P+P:=by rw [Int.natCast_add,Int.add_mul]; simp
    intro hlt;exact hx ⟨v,Xk.1 hv,by omega⟩
 intro v hv;rcases key n (Qk _) with h | h
 ·have h0:(List.range n).countP (fun v=>decide (s q+n*P<s v))=0:=by omega
  rw [List.countP_eq_zero] at h0;have:=h0 v (Xk.2 hv);rw [decide_eq_true_eq] at this; omega
 ·rw [List.countP_eq_zero] at h;have:=h v (Xk.2 hv);rw [decide_eq_true_eq] at this; omega
def A1j (n:Nat) (M:Nat->Nat->Int) (q:Nat) (D:Nat->Int):Prop:=(∀v,v<n->v≠q->0≤D v)∧ ∀A:Nat->Bool,A q=false->(∃v,v<n∧A v=true)-> ∃v,v<n∧A v=true∧D v<outA n M A v
def B9K (hM:Mult n M) {q:Nat} {D:Nat->Int} (h: ∀v,v<n->v≠q->0≤D v) {A:Nat->Bool} {t:Int} (ht:0≤t) (hl: ∀v,v<n->A v=true->t*outA n M A v≤D v): ∀v,v<n->v≠q->0≤D v-lap n M (fun u=>t*B2m A u) v:=fun v hv hne=>by
 rw [B9J];split
 ·rename_i hA; have:=hl v hv hA; omega
 ·have:=Qj7 ht (B0J hM A v);have:=h v hv hne;omega
def C2N (hM:Mult n M) {q:Nat} (hq:q<n) (D:Nat->Int): ∀(k:Nat) (s:Nat->Int),(∀v,v<n->v≠q->0≤D v-lap n M s v)->s q=0->n*(n*sumR (fun v=>if v=q then 0 else max 0 (D v)) n)-sumR s n≤k-> ∃s',A1j n M q (fun v=>D v-lap n M s' v):=by
 intro k
 induction k with
 | zero=>
  intro s hw hs hk;refine ⟨s,hw,fun A hAq hA=> ?_⟩;refine QJ fun hx=> ?_;have hl: ∀v,v<n->A v=true->1*outA n M A v≤D v-lap n M s v:=fun v hv hAv=>by
   have: ¬D v-lap n M s v<outA n M A v:=fun hlt=>hx ⟨v,hv,hAv,hlt⟩;omega
  have hw':=B9K hM (D:=fun v=>D v-lap n M s v) hw (t:=1) (by omega) hl;have hg:=C4Z hM hq (D:=D) (s:=fun u=>s u+1*B2m A u) (fun v hv hne=>by have:=hw' v hv hne; rw [A7z]; (try dsimp only at this); omega) (Jj _);have h0:s q+1*B2m A q=0:=by unfold B2m; rw [hAq,hs]; rfl
  (try dsimp only at hg)
  rw [h0] at hg;have hsum:sumR (fun u=>s u+1*B2m A u) n≤n*(0+n*sumR (fun v=>if v=q then 0 else max 0 (D v)) n):=by
   rw [<-A2b]; exact A3J hg
  rw [A02] at hsum;obtain ⟨v,hv,hAv⟩:=hA;have h1:=A1i (f:=fun u=>1*B2m A u) (n:=n) (fun i _=>by (try dsimp only); unfold B2m; split<;>omega) hv;have h2:1*B2m A v=1:=by unfold B2m; rw [if_pos hAv]; rfl
  (try dsimp only at h1)
  rw [Int.zero_add] at hsum;omega
 | succ k ih=>
  intro s hw hs hk;by_cases hr:A1j n M q (fun v=>D v-lap n M s v)
  ·exact ⟨s,hr⟩
  ·have: ∃A:Nat->Bool,A q=false∧(∃v,v<n∧A v=true)∧ ∀v,v<n->A v=true->outA n M A v≤D v-lap n M s v:=by
    refine QJ fun hx=>hr ⟨hw,fun A h1 h2=> ?_⟩;refine QJ fun h3=>hx ⟨A,h1,h2,fun v hv hA=> ?_⟩;have: ¬D v-lap n M s v<outA n M A v:=fun hlt=>h3 ⟨v,hv,hA,hlt⟩;omega
   obtain ⟨A,hAq,⟨v,hv,hAv⟩,hl⟩:=this;have hw':=B9K hM (D:=fun v=>D v-lap n M s v) hw (t:=1) (by omega) (fun v hv hA=>by have:=hl v hv hA; (try dsimp only); omega);refine ih (fun u=>s u+1*B2m A u) (fun v hv hne=>by have:=hw' v hv hne; rw [A7z]; (try dsimp only at this); omega) (by (try dsimp only); unfold B2m; rw [hAq,hs]; rfl) ?_;rw [A02];have h1:=A1i (f:=fun u=>1*B2m A u) (n:=n) (fun i _=>by (try dsimp only); unfold B2m; split<;>omega) hv;have h2:1*B2m A v=1:=by unfold B2m; rw [if_pos hAv]; rfl
   (try dsimp only at h1)
   omega
def A71 (hM:Mult n M) {q:Nat} (hq:q<n): ∀k,1≤k->k≤n-> ∃L:List Nat,L.length=k∧L.Nodup∧(∀v,v∈L->v<n)∧L[0]? =some q∧ ∀i v,1≤i->L[i]? =some v-> ∃u,u∈L.take i∧1≤M v u:=by
 intro k
 induction k with
 | zero=>intro h; omega
 | succ k ih=>
  intro _ hk;rcases Qz6 k with h0 | h0
  ·subst h0;exact ⟨[q],rfl,by simp,by simpa using hq,rfl,fun i v hi hv=>by have:=(Qx.1 hv).1; simp at this; omega⟩
  ·obtain ⟨L,l1,l2,l3,l4,l5⟩:=ih h0 (by omega);have hout: ∃v,v<n∧v∉L:=by
    refine QJ fun hx=> ?_;have:=YZ (l₁:=List.range n) (l₂:=L) Qx1 fun v hv=>QJ fun h=>hx ⟨v,Xk.1 hv,h⟩;rw [Vy] at this; omega
   obtain ⟨w,hw,hwL⟩:=hout;obtain ⟨u,v,hu,hv,h1,h2,h3⟩:=hM.con (fun v=>decide (v∈L)) ⟨q,hq,decide_eq_true (Qv l4)⟩ ⟨w,hw,decide_eq_false hwL⟩;rw [decide_eq_true_eq] at h1;rw [decide_eq_false_iff_not] at h2;refine ⟨L++[v],by simp [l1],YW.2 ⟨l2,by simp,fun a ha b hb=>by simp at hb; subst hb; rintro rfl; exact h2 ha⟩,fun x hx=> ?_,by rw [Qw (by omega)]; exact l4,fun i x hi hx=> ?_⟩
   ·rcases XZ.1 hx with h | h
    ·exact l3 x h
    ·rw [XQ.1 h]; exact hv
   ·by_cases hil:i<L.length
    ·rw [Qw hil] at hx;obtain ⟨y,y1,y2⟩:=l5 i x hi hx;exact ⟨y,by rw [ZZ (by omega)]; exact y1,y2⟩
    ·have hi2:=(Qx.1 hx).1;simp at hi2;have hie:i=L.length:=by omega
     subst hie;rw [QW (Qk _)] at hx;simp at hx; subst hx;exact ⟨u,by rw [ZZ (Qk _),Zz]; exact h1,by rw [hM.sym]; exact h3⟩
def B4E (hM:Mult n M) {q:Nat} (hq:q<n) (D:Nat->Int): ∃s,∀v,v<n->v≠q->0≤D v-lap n M s v:=by
 obtain ⟨L,l1,l2,l3,l4,l5⟩:=A71 hM hq n (by omega) (Qk _);have hall: ∀v,v<n->v∈L:=fun v hv=>by
  refine QJ fun h=> ?_;have:=YZ (l₁:=v::L) (l₂:=List.range n) (Qq8.2 ⟨h,l2⟩) fun x hx=>by
   rcases QV.1 hx with rfl | hx
   ·exact Xk.2 hv
   ·exact Xk.2 (l3 x hx)
  simp at this; omega
 have key: ∀k,k≤n-1-> ∃s,∀i v,n-k≤i->L[i]? =some v->0≤D v-lap n M s v:=by
  intro k
  induction k with
  | zero=>intro _; exact ⟨fun _=>0,fun i v hi hv=>by have:=(Qx.1 hv).1; omega⟩
  | succ k ih=>
   intro hk;obtain ⟨s,hs⟩:=ih (by omega);have hlt:n-(k+1)<L.length:=by omega
   obtain ⟨x,hx⟩: ∃x,L[n-(k+1)]? =some x:=⟨_,Qq hlt⟩;obtain ⟨u,u1,u2⟩:=l5 _ x (by omega) hx;let A:Nat->Bool:=fun v=>decide (v∈L.take (n-(k+1)));let t:Int:=max 0 (-(D x-lap n M s x));have ht:0≤t:=Int.le_max_left _ _;refine ⟨fun v=>s v+t*B2m A v,fun i v hi hv=> ?_⟩;have hnA:A v=false:=decide_eq_false fun hm=>by
    obtain ⟨j,hj⟩:=Zj.1 hm;have hj2:=(Qx.1 hj).1;rw [Wk] at hj2;rw [Xx (by omega)] at hj;have:=(List.getElem?_inj (Qx.1 hj).1 l2).1 (hj.trans hv.symm);omega
   rw [A7z,B9J,if_neg (by rw [hnA]; simp)];by_cases hie:i=n-(k+1)
   ·subst hie;rw [hx] at hv; cases hv;have h1:=C6F hM A (u:=u) (v:=x) (l3 u (JZ u1)) (decide_eq_true u1);have h2:t*1≤t*inA n M A x:=Qv1 (by omega) ht;have h3: -(D x-lap n M s x)≤t:=Int.le_max_right _ _;omega
   ·have h1:=hs i v (by omega) hv;have h2:=Qj7 ht (B0J hM A v);omega
 obtain ⟨s,hs⟩:=key (n-1) (Qk _);refine ⟨s,fun v hv hne=> ?_⟩;obtain ⟨i,hi⟩:=Zj.1 (hall v hv);refine hs i v ?_ hi;rcases Qz6 i with h0 | h0
 ·subst h0; rw [l4] at hi; cases hi; exact absurd rfl hne
 ·omega
def B0K (hM:Mult n M) {q:Nat} (hq:q<n) (D:Nat->Int): ∃R,B1F n M D R∧A1j n M q R:=by
 obtain ⟨s,hs⟩:=B4E hM hq D;have hw: ∀v,v<n->v≠q->0≤D v-lap n M (fun u=>s u+ -s q) v:=fun v hv hne=>by
  rw [A7z];have:lap n M (fun _=> -s q) v=0:=by unfold lap; exact A0H fun u _=>by simp
  rw [this]; have:=hs v hv hne; omega
 obtain ⟨s',hr⟩:=C2N hM hq D (n*(n*sumR (fun v=>if v=q then 0 else max 0 (D v)) n)-sumR (fun u=>s u+ -s q) n).toNat (fun u=>s u+ -s q) hw (by (try dsimp only); omega) (by omega);exact ⟨_,⟨s',fun _ _=>rfl⟩,hr⟩
end
section
variable {n:Nat} {M:Nat->Nat->Int}
def B9L (hM:Mult n M) {q:Nat} (hq:q<n) {R S s:Nat->Int} (h1:A1j n M q R) (h2: ∀v,v<n->v≠q->0≤S v) (hs: ∀v,v<n->S v=R v-lap n M s v): ∀v,v<n->s v≤s q:=by
 obtain ⟨v0,hv0,hmax⟩:=A70 s (n:=n) (by omega);refine fun v hv=>Qw9 (hmax v hv) ?_;refine QJ fun hx=> ?_;have hx:s q<s v0:=by omega
 obtain ⟨w,hw,hA,hlt⟩:=h1.2 (fun u=>decide (s u=s v0)) (decide_eq_false (by omega)) ⟨v0,hv0,decide_eq_true rfl⟩;have hA:=of_decide_eq_true hA;have hwq:w≠q:=by rintro rfl; omega
 have hl:outA n M (fun u=>decide (s u=s v0)) w≤lap n M s w:=by
  unfold outA lap;refine A3J fun u hu=> ?_;have hp:=hM.pos w u;have hm:=hmax u hu;by_cases e:s u=s v0
  ·rw [if_pos (decide_eq_true e),hA,e,Int.sub_self,Qv2]; exact Jj _
  ·rw [if_neg (by rw [decide_eq_true_eq]; exact e),hA];have h3:M w u*1≤M w u*(s v0-s u):=Qv1 (by omega) hp;omega
 have:=h2 w hw hwq;rw [hs w hw] at this;omega
def B72 (hM:Mult n M) {q:Nat} (hq:q<n) {R S:Nat->Int} (h1:A1j n M q R) (h2:A1j n M q S) (he:B1F n M R S): ∀v,v<n->R v=S v:=by
 obtain ⟨s,hs⟩:=he;have a:=B9L hM hq h1 h2.1 hs;have b:=B9L hM hq h2 h1.1 (s:=fun u=> -s u) fun v hv=>by rw [B4D,hs v hv]; omega
 intro v hv;have hz:lap n M s v=0:=by
  unfold lap;refine A0H fun u hu=> ?_;have:=a u hu; have q1: -s u≤ -s q:=b u hu; have:=a v hv; have q2: -s v≤ -s q:=b v hv;rw [show s v-s u=0 by omega,Qv2]
 rw [hs v hv,hz]; omega
def C5a {α:Type} {l m:List α} (hl:l.Nodup) (hm:m.Nodup) (h: ∀x,x∈l->x∈m):l.length≤m.length:=by
 classical
 have hp:l.Perm (m.filter fun x=>decide (x∈l)):=(WZ hl (hm.filter _)).2 fun x=>by
  rw [ZV,decide_eq_true_eq]; exact ⟨fun hx=>⟨h x hx,hx⟩,fun hx=>hx.2⟩
 rw [hp.length_eq]; exact WW _ _
def A6D {α β:Type} {f:α->β} {l:List α} (hl:l.Nodup) (hf: ∀x,x∈l-> ∀y,y∈l->f x=f y->x=y):(l.map f).Nodup:=by
 show List.Pairwise _ _;rw [JQ];exact List.Pairwise.imp_of_mem (fun {x y} hx hy h e=>h (hf x hx y hy e)) hl
def atI (l:List Int) (v:Nat):Int:=l.getD v 0
def ssL (n:Nat) (M:Nat->Nat->Int) (q:Nat) (l:List Int):Prop:=l.length=n∧atI l q=0∧A1j n M q (atI l)
def C5b {l m:List Int} (h1:l.length=n) (h2:m.length=n) (h: ∀v,v<n->atI l v=atI m v):l=m:=by
 refine VJ (h1.trans h2.symm) fun i q1 q2=> ?_;have:=h i (by omega);unfold atI at this;rwa [Qz,Qz,Qq q1,Qq q2] at this
def zeroAt (n q:Nat) (D:Nat->Int):List Int:=(List.range n).map fun v=>if v=q then 0 else D v
def B0L (q:Nat) (D:Nat->Int):(zeroAt n q D).length=n:=by simp [zeroAt]
def A4a {q v:Nat} (D:Nat->Int) (hv:v<n):atI (zeroAt n q D) v=if v=q then 0 else D v:=by
 unfold atI zeroAt;rw [Qz,QQ,Yv hv]; rfl
def A1j.congr {q:Nat} {D E:Nat->Int} (h:A1j n M q D) (he: ∀v,v<n->v≠q->D v=E v):A1j n M q E:=by
 refine ⟨fun v hv hq=>by rw [<-he v hv hq]; exact h.1 v hv hq,fun A hA hx=> ?_⟩;obtain ⟨v,hv,h1,h2⟩:=h.2 A hA hx;refine ⟨v,hv,h1,?_⟩;rw [<-he v hv (by rintro rfl; rw [hA] at h1; cases h1)]; exact h2
def B73 {f g:Nat->Int} {q:Nat} (hq:q<n) (h: ∀v,v<n->v≠q->f v=g v) (hs:sumR f n=sumR g n):f q=g q:=by
 have h1:sumR (fun v=>f v-g v) n=0:=by rw [A1M]; omega
 have h2:sumR (fun v=>f v-g v) n=sumR (fun v=>if v=q then f q-g q else 0) n:=A0g fun v hv=>by
  by_cases e:v=q
  ·subst e; simp
  ·rw [if_neg e,h v hv e]; omega
 rw [h1,A0E _ _ hq] at h2;omega
end
section
variable {n:Nat} {M:Nat->Nat->Int}
end
section
variable {n a b:Nat} {M:Nat->Nat->Int}
end
section
variable {n q:Nat} {M:Nat->Nat->Int} {c:Nat->Int}
def valM (n:Nat) (M:Nat->Nat->Int) (v:Nat):Int:=sumR (M v) n
def catchP (n:Nat) (M:Nat->Nat->Int) (c:Nat->Int) (L:List Nat) (v:Nat):Bool:=decide (v∉L)&&decide (valM n M v≤c v+inA n M (fun u=>decide (u∈L)) v)
def fireG (n:Nat) (M:Nat->Nat->Int) (c:Nat->Int):Nat->List Nat->List Nat
 | 0,L=>L
 | k+1,L=>match (List.range n).find? (catchP n M c L) with
  | some v=>fireG n M c k (L++[v])
  | none=>L
structure Burns (n:Nat) (M:Nat->Nat->Int) (c:Nat->Int) (q:Nat) (L:List Nat):Prop where
 nd:L.Nodup
 lt: ∀v,v∈L->v<n
 hd:L[0]? =some q
 ct: ∀i v,1≤i->L[i]? =some v->catchP n M c (L.take i) v=true
end
section
variable {n q:Nat} {M:Nat->Nat->Int}
structure recP (n:Nat) (M:Nat->Nat->Int) (q:Nat) (l:List Int):Prop where
 len:l.length=n
 z:atI l q=0
 st: ∀v,v<n->v≠q->0≤atI l v∧atI l v<valM n M v
 full:(fireG n M (atI l) (n-1) [q]).length=n
def C6G (hM:Mult n M) {D:Nat->Int} (h:A1j n M q D) {v:Nat} (hv:v<n) (hq:v≠q):D v<valM n M v:=by
 obtain ⟨u,hu,hA,hlt⟩:=h.2 (fun u=>decide (u=v)) (by simp; exact fun e=>hq e.symm) ⟨v,hv,by simp⟩;have hA':u=v:=by simpa using hA
 subst hA';have e:outA n M (fun w=>decide (w=u)) u=valM n M u:=by
  unfold outA valM;refine A0g fun w hw=> ?_;by_cases e:w=u
  ·subst e; simp [hM.dia]
  ·simp [e]
 omega
end
end Go.Proofs.YtdbdfkohpjefjaaGreat
