/- A part of the proof. -/
import Derived.Test.YtdbdfkohpjefjaaGreatPart13
import Derived.Test.YtdbdfkohpjefjaaGreatPart12
set_option linter.all false
set_option maxHeartbeats 4000000
set_option maxRecDepth 100000
namespace Go.Proofs.YtdbdfkohpjefjaaGreat
open Go.Sp
def inL (p:Int->Bool) (n:Nat):List Int:=((List.range n).map fun (i:Nat)=>(i:Int)).filter p
theorem C2x (p:Int->Bool) (n:Nat):(inL p n).length≤n:=by
 have:=Jq p ((List.range n).map fun (i:Nat)=>(i:Int));simpa [inL] using this
theorem B05 {p:Int->Bool} {n:Nat} {x:Int}:x∈inL p n↔(0≤x∧x<n)∧p x=true:=by
 simp only [inL,YW,Xq,XQ];constructor
 ·rintro ⟨⟨i,hi,rfl⟩,h⟩; exact ⟨by omega,h⟩
 ·rintro ⟨h,h2⟩; exact ⟨⟨x.toNat,by omega,by omega⟩,h2⟩
theorem A6J (p:Int->Bool) (n:Nat):(inL p n).Pairwise (·< ·):=by
 refine List.Pairwise.filter _ ?_;rw [Jj];exact List.pairwise_lt_range.imp fun {a b} h=>by omega
theorem A81 {n:Int}: ∀{l:List Int} {u:Option Int},(∀x,x∈l->0≤x∧x<n)->l.Pairwise (·< ·)->(∀w,u=some w-> ∀x,x∈l->w<x)->A4h n u l=0
 | [],_,_,_,_=>rfl
 | x::xs,u,h1,h2,h3=>by
  have:=h1 x (by simp);have hp:=WX.1 h2;simp only [A4h];rw [if_neg (by omega),if_neg (by rintro ⟨w,hw,hx⟩; have:=h3 w hw x (by simp); omega)];refine A81 (fun y hy=>h1 y (by simp [hy])) hp.2 fun w hw y hy=> ?_;cases hw; exact hp.1 y hy
theorem A82: ∀{l:List Int} {x y:Int},l.Pairwise (·< ·)->0≤A2R l x->0≤A2R l y->x<y->A2R l x<A2R l y
 | [],x,y,_,h,_,_=>by simp [A2R] at h
 | z ::zs,x,y,h,hx,hy,hxy=>by
  have hp:=WX.1 h;simp only [A2R] at hx hy ⊢;by_cases ex:z=x
  ·subst ex;rw [if_pos rfl];rw [if_neg (by omega)] at hy ⊢;split at hy
   ·omega
   ·rw [if_neg (by omega)]; omega
  ·rw [if_neg ex] at hx ⊢;split at hx
   ·omega
   ·have hxm:x∈zs:=(A73 zs x).1 (by omega);have:=hp.1 x hxm;rw [if_neg (by omega)] at hy ⊢;split at hy
    ·omega
    ·have:=A82 hp.2 (x:=x) (y:=y) (by omega) (by omega) hxy;rw [if_neg (by omega),if_neg (by omega)]; omega
def B3e (F:Int->Int) (x:E):E:=⟨F x.a,F x.b,x.m⟩
def A3w (F:Int->Int) (x:E):Bool:=decide (0≤F x.a∧0≤F x.b)
theorem B59 {es:List E} {a b m:Int} (h: ∀x,x∈es-> ¬(x.a=a∧x.b=b)):A17 es a b m=es++[⟨a,b,m⟩]:=by
 induction es with
 | nil=>rfl
 | cons x xs ih=>simp only [A17]; rw [if_neg (h x (by simp)),ih fun y hy=>h y (by simp [hy])]; rfl
def B3f (F:Int->Int):Prop:= ∀u v,0≤F u->0≤F v->u<v->F u<F v
theorem C19 {F:Int->Int} (hF:B3f F) {x y:E} (hx:A3w F x=true) (hy:A3w F y=true) (h:ltE x y):ltE (B3e F x) (B3e F y):=by
 simp only [A3w,decide_eq_true_eq] at hx hy;unfold ltE B3e at*;simp only;rcases h with h | ⟨h,h2⟩
 ·exact .inl (hF _ _ hx.1 hy.1 h)
 ·exact .inr ⟨by rw [h],hF _ _ hx.2 hy.2 h2⟩
theorem B3g {F:Int->Int} (hF:B3f F): ∀(es acc:List E),(∀x,x∈es->x.a≤x.b)->es.Pairwise ltE->(∀y,y∈acc-> ∀x,x∈es->A3w F x=true->ltE y (B3e F x))->
  es.foldl (A2T F) acc=acc++(es.filter (A3w F)).map (B3e F)
 | [],acc,_,_,_=>by simp
 | x ::xs,acc,h1,h2,h3=>by
  have hp:=WX.1 h2;have hx:=h1 x (by simp);simp only [List.foldl_cons];by_cases hb:A3w F x=true
  ·have hb':=hb;simp only [A3w,decide_eq_true_eq] at hb';have hab:F x.a≤F x.b:=by
    by_cases e:x.a=x.b
    ·rw [e]; omega
    ·have:=hF x.a x.b hb'.1 hb'.2 (by omega); omega
   have e1:min (F x.a) (F x.b)=F x.a:=by omega
   have e2:max (F x.a) (F x.b)=F x.b:=by omega
   have e:A2T F acc x=acc++[B3e F x]:=by
    unfold A2T;rw [if_pos hb',e1,e2,B59 fun y hy=> ?_]
    ·rfl
    ·have:=h3 y hy x (by simp) hb;unfold ltE B3e at this;simp only at this; omega
   rw [e,B3g hF xs _ (fun y hy=>h1 y (by simp [hy])) hp.2 (fun y hy z hz hzb=> ?_),Qj9 hb]
   ·simp
   ·rcases XZ.1 hy with hy | hy
    ·exact h3 y hy z (by simp [hz]) hzb
    ·obtain rfl:=XJ.1 hy;exact C19 hF hb hzb (hp.1 z hz)
  ·have e:A2T F acc x=acc:=by
    unfold A2T; exact if_neg (by simpa [A3w] using hb)
   rw [e,B3g hF xs _ (fun y hy=>h1 y (by simp [hy])) hp.2 (fun y hy z hz hzb=>h3 y hy z (by simp [hz]) hzb),Qw0 hb]
theorem B7L {F:Int->Int} (hF:B3f F) {es:List E} (h1: ∀x,x∈es->x.a≤x.b) (h2:es.Pairwise ltE):B2X F es=(es.filter (A3w F)).map (B3e F):=by
 unfold B2X;rw [B3g hF es [] h1 h2 (by simp)]; rfl
theorem A83 {F:Int->Int} (hF:B3f F) {es:List E} (h2:es.Pairwise ltE):((es.filter (A3w F)).map (B3e F)).Pairwise ltE:=by
 rw [Jj];have h3:(es.filter (A3w F)).Pairwise fun x y=>ltE x y∧A3w F x=true∧A3w F y=true:=by
  rw [List.pairwise_filter];exact h2.imp fun {x y} h hx hy=>⟨h,hx,hy⟩
 exact h3.imp fun {x y} h=>C19 hF h.2.1 h.2.2 h.1
theorem B4k {F:Int->Int} (hF:B3f F) {es:List E} (h1: ∀x,x∈es->x.a≤x.b) (h2:es.Pairwise ltE):A2Q (B2X F es)=(es.filter (A3w F)).map (B3e F):=by
 rw [B7L hF h1 h2];exact C0f (A83 hF h2) (List.Perm.refl _)
def B7M (q:Int->Bool):List (Int×Int)->Int
 | []=>0
 | p::l=>(if q p.1=q p.2 then 0 else 1)+B7M q l
def A4g (q:Int->Bool):List (Int×Int)->Int
 | []=>0
 | p::l=>(if q p.1=true∧q p.2=true then 1 else 0)+A4g q l
theorem B1N (q:Int->Bool) (a b:List (Int×Int)):A4g q (a++b)=A4g q a+A4g q b:=by
 induction a with
 | nil=>simp [A4g]
 | cons x xs ih=>simp only [List.cons_append,A4g,ih]; omega
theorem B7N (q:Int->Bool) (p:Int×Int) (k:Nat):A4g q (List.replicate k p)=if q p.1=true∧q p.2=true then (k:Int) else 0:=by
 induction k with
 | zero=>simp [A4g]
 | succ k ih=>rw [List.replicate_succ]; simp only [A4g,ih]; split<;>omega
theorem B7O (set:List Int) (l:List (Int×Int)):((C0o set l).length:Int)=B7M (fun v=>decide (v∈set)) l:=by
 have key: ∀(l:List (Int×Int)) (k:Nat),((((l.zipIdx k).filterMap fun q=>if C0n set q.1 then some (q.2:Int) else none).length:Nat):Int)=B7M (fun v=>decide (v∈set)) l:=by
  intro l
  induction l with
  | nil=>intro k; rfl
  | cons p l ih=>
   intro k;rw [List.zipIdx_cons,List.filterMap_cons];simp only [B7M];by_cases h:decide (p.1∈set)=decide (p.2∈set)
   ·rw [if_pos h];have hs:C0n set p=false:=by unfold C0n; rw [decide_eq_true h]; rfl
    simp only [hs,YQ,if_false];rw [ih]; omega
   ·rw [if_neg h];have hs:C0n set p=true:=by unfold C0n; rw [decide_eq_false h]; rfl
    simp only [hs,if_true,List.length_cons];have:=ih (k+1);omega
 exact key l 0
theorem C2y {q:Int->Bool} {n:Nat} {l:List (Int×Int)} (hr: ∀p,p∈l->(0≤p.1∧p.1<n)∧(0≤p.2∧p.2<n)):
  sumR (fun v=>if q v then C2r v l else 0) n=B7M q l+2*A4g q l:=by
 induction l with
 | nil=>simp only [C2r,B7M,A4g]; rw [A6b fun _ _=>by simp]; rfl
 | cons p l ih=>
  have h1:=hr p (by simp);have h2:=ih fun x hx=>hr x (by simp [hx]);have h3:sumR (fun v=>if q v then C2r v (p::l) else 0) n=sumR (fun v=>if (v:Int)=p.1 then (if q p.1 then 1 else 0) else 0) n+sumR (fun v=>if (v:Int)=p.2 then (if q p.2 then 1 else 0) else 0) n+sumR (fun v=>if q v then C2r v l else 0) n:=by
   rw [<-B03,<-B03];refine A1m fun i _=> ?_;simp only [C2r,b2i];have c1:(if p.1=(i:Int) then (1:Int) else 0)=if (i:Int)=p.1 then 1 else 0:=by
    by_cases e:(i:Int)=p.1
    ·rw [if_pos e,if_pos e.symm]
    ·rw [if_neg e,if_neg fun h=>e h.symm]
   have c2:(if p.2=(i:Int) then (1:Int) else 0)=if (i:Int)=p.2 then 1 else 0:=by
    by_cases e:(i:Int)=p.2
    ·rw [if_pos e,if_pos e.symm]
    ·rw [if_neg e,if_neg fun h=>e h.symm]
   rw [c1,c2];have q1:(i:Int)=p.1->q p.1=q i:=fun e=>by rw [e]
   have q2:(i:Int)=p.2->q p.2=q i:=fun e=>by rw [e]
   by_cases e1:(i:Int)=p.1
   ·by_cases e2:(i:Int)=p.2
    ·rw [if_pos e1,if_pos e2,if_pos e1,if_pos e2,q1 e1,q2 e2]; split<;>omega
    ·rw [if_pos e1,if_neg e2,if_pos e1,if_neg e2,q1 e1]; split<;>omega
   ·by_cases e2:(i:Int)=p.2
    ·rw [if_neg e1,if_pos e2,if_neg e1,if_pos e2,q2 e2]; split<;>omega
    ·rw [if_neg e1,if_neg e2,if_neg e1,if_neg e2]; split<;>omega
  rw [h3,h2,B4f h1.1.1 h1.1.2,B4f h1.2.1 h1.2.2];simp only [B7M,A4g];cases hq1:q p.1<;>cases hq2:q p.2<;>simp<;>omega
theorem B5A {q r:Int->Bool} {l:List (Int×Int)} (h: ∀p,p∈l->q p.1=r p.1∧q p.2=r p.2):B7M q l=B7M r l:=by
 induction l with
 | nil=>rfl
 | cons p l ih=>
  have h1:=h p (by simp);simp only [B7M,ih fun x hx=>h x (by simp [hx]),h1.1,h1.2]
theorem B3h {q r:Int->Bool} {l:List (Int×Int)} (h: ∀p,p∈l->q p.1=r p.1∧q p.2=r p.2):A4g q l=A4g r l:=by
 induction l with
 | nil=>rfl
 | cons p l ih=>
  have h1:=h p (by simp);simp only [A4g,ih fun x hx=>h x (by simp [hx]),h1.1,h1.2]
theorem B4l {F:Int->Int} {es:List E} (hm: ∀x,x∈es->1≤x.m):(((endsL ((es.filter (A3w F)).map (B3e F))).length:Nat):Int)=A4g (fun v=>decide (0≤F v)) (endsL es):=by
 induction es with
 | nil=>rfl
 | cons x xs ih=>
  have h1:=hm x (by simp);have h2:=ih fun y hy=>hm y (by simp [hy]);rw [A9B,B1N,B7N,<-h2];by_cases hb:A3w F x=true
  ·rw [Qj9 hb,Xy,A9B,Xw,Yq];have hb':=hb;simp only [A3w,decide_eq_true_eq] at hb';rw [if_pos (by simpa using hb')];simp only [B3e]; omega
  ·rw [Qw0 hb,if_neg (by simpa [A3w] using hb)]; omega
theorem A4d {α β:Type} {f g:α->Option β}: ∀{l:List α},(∀x,x∈l->f x=g x)->l.filterMap f=l.filterMap g
 | [],_=>rfl
 | x::xs,h=>by
  rw [List.filterMap_cons,List.filterMap_cons,h x (by simp),A4d fun y hy=>h y (by simp [hy])]
theorem B7P {s t:List Int} {l:List (Int×Int)} (h: ∀p,p∈l->C0n s p=C0n t p):C0o s l=C0o t l:=by
 unfold C0o;refine A4d fun q hq=> ?_;have:q.1∈l:=by
  obtain ⟨a,i⟩:=q;have:=List.mem_zipIdx hq;simp at this;rw [this.2]; exact Xv _
 rw [h _ this]
theorem B3i {g:G} {n:Nat} (hc:checkG g=0) (hn:g.n=n) (p:Int->Bool):
  B2u g (inL p n)=0∧B2u g (inL (fun v=> !p v) n)=0∧C0o (inL p n) (endsL g.es)=C0o (inL (fun v=> !p v) n) (endsL g.es)∧
  (inL p n=[]->C0o (inL p n) (endsL g.es)=[])∧
  (inL p n≠[]->indE g (inL p n)=0∧checkG (B5z g (inL p n))=0∧(B5z g (inL p n)).es.length≤g.es.length∧
   sumR (fun v=>if p v then C2r v (endsL g.es) else 0) n=(C0o (inL p n) (endsL g.es)).length+2*(endsL (B5z g (inL p n)).es).length):=by
 obtain ⟨h1,h2,h3⟩:=A0j.1 hc;have hsub: ∀q:Int->Bool,B2u g (inL q n)=0:=fun q=>by
  unfold B2u;rw [if_neg (by omega)];refine A81 (fun x hx=> ?_) (A6J _ _) (fun w hw=>by cases hw);have:=(B05.1 hx).1; omega
 have hr: ∀x,x∈endsL g.es->(0≤x.1∧x.1<n)∧(0≤x.2∧x.2<n):=fun x hx=>by
  obtain ⟨e,he,hx⟩:=Qq1.1 hx;obtain rfl:=List.eq_of_mem_replicate hx;have:=h2 e he;unfold okE at this;simp only; omega
 have hmem: ∀(q:Int->Bool) (v:Int),0≤v->v<n->decide (v∈inL q n)=q v:=fun q v hv1 hv2=>by
  rw [Qz1]; simp [B05,hv1,hv2]
 refine ⟨hsub p,hsub _,?_,?_,?_⟩
 ·refine B7P fun x hx=> ?_;have:=hr x hx;unfold C0n;rw [hmem p x.1 (by omega) (by omega),hmem p x.2 (by omega) (by omega),hmem (fun v=> !p v) x.1 (by omega) (by omega),hmem (fun v=> !p v) x.2 (by omega) (by omega)];cases p x.1<;>cases p x.2<;>rfl
 ·intro e;rw [e];have:((C0o [] (endsL g.es)).length:Int)=0:=by
   rw [B7O];generalize endsL g.es=l
   induction l with
   | nil=>rfl
   | cons x xs ih=>simp only [B7M]; simp; simpa using ih
  exact ZW.1 (by omega)
 ·intro hne;have hF:B3f (A2R (inL p n)):=fun u v hu hv huv=>A82 (A6J _ _) hu hv huv;have hE:indE g (inL p n)=0:=by unfold indE; rw [if_neg (by rw [hsub]; simp),if_neg hne]
  have hlen:=C2x p n;have hl0:0<(inL p n).length:=Wj.2 hne;have hG:B5z g (inL p n)=⟨(inL p n).length,(g.es.filter (A3w (A2R (inL p n)))).map (B3e (A2R (inL p n)))⟩:=by
   unfold B5z;rw [if_neg (by rw [hE]; simp),B4k hF (fun x hx=>by have:=h2 x hx; unfold okE at this; omega) h3]
  refine ⟨hE,?_,?_,?_⟩
  ·rw [hG,A0j];refine ⟨by simp only; omega,fun e he=> ?_,A83 hF h3⟩;obtain ⟨x,hx,rfl⟩:=Xq.1 he;obtain ⟨hx,hb⟩:=YW.1 hx;have hok:=h2 x hx;simp only [A3w,decide_eq_true_eq] at hb;have hlt:=B74 (inL p n) x.b;have hab:A2R (inL p n) x.a≤A2R (inL p n) x.b:=by
    by_cases e:x.a=x.b
    ·rw [e]; omega
    ·have:=hF x.a x.b hb.1 hb.2 (by unfold okE at hok; omega); omega
   unfold okE at*;simp only [B3e]; omega
  ·rw [hG]; simp only [XW]; exact Jq _ _
  ·rw [C2y hr,B7O,hG];simp only;rw [B4l (fun x hx=>by have:=h2 x hx; unfold okE at this; omega)];rw [B5A (q:=p) (r:=fun v=>decide (v∈inL p n)),B3h (q:=p) (r:=fun v=>decide (0≤A2R (inL p n) v))]
   ·intro x hx;have:=hr x hx;have e: ∀v:Int,0≤v->v<n->p v=decide (0≤A2R (inL p n) v):=fun v hv1 hv2=>by
     rw [<-hmem p v hv1 hv2]; exact decide_eq_decide.2 (A73 _ _).symm
    exact ⟨e _ (by omega) (by omega),e _ (by omega) (by omega)⟩
   ·intro x hx;have:=hr x hx;exact ⟨(hmem p _ (by omega) (by omega)).symm,(hmem p _ (by omega) (by omega)).symm⟩
end Go.Proofs.YtdbdfkohpjefjaaGreat
