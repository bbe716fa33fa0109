/- A part of the proof. -/
import Derived.Test.YtdbdfkohpjefjaaGreatPart12
import Derived.Test.YtdbdfkohpjefjaaGreatPart11
set_option linter.all false
set_option maxHeartbeats 4000000
set_option maxRecDepth 100000
namespace Go.Proofs.YtdbdfkohpjefjaaGreat
open Go.Sp
def inL (p:Int->Bool) (n:Nat):List Int:=((List.range n).map fun (i:Nat)=>(i:Int)).filter p
theorem C1Y (p:Int->Bool) (n:Nat):(inL p n).length≤n:=by
 have:=WV p ((List.range n).map fun (i:Nat)=>(i:Int));simpa [inL] using this
theorem B3b {p:Int->Bool} {n:Nat} {x:Int}:x∈inL p n↔(0≤x∧x<n)∧p x=true:=by
 simp only [inL,JX,Xq,XJ];constructor
 ·rintro ⟨⟨i,hi,rfl⟩,h⟩; exact ⟨by omega,h⟩
 ·rintro ⟨h,h2⟩; exact ⟨⟨x.toNat,by omega,by omega⟩,h2⟩
theorem A9H (p:Int->Bool) (n:Nat):(inL p n).Pairwise (·< ·):=by
 refine List.Pairwise.filter _ ?_;rw [JJ];exact List.pairwise_lt_range.imp fun {a b} h=>by omega
theorem A89 {n:Int}: ∀{l:List Int} {u:Option Int},(∀x,x∈l->0≤x∧x<n)->l.Pairwise (·< ·)->(∀w,u=some w-> ∀x,x∈l->w<x)->A2X n u l=0
 | [],_,_,_,_=>rfl
 | x::xs,u,h1,h2,h3=>by
  have:=h1 x (by simp);have hp:=YV.1 h2;simp only [A2X];rw [if_neg (by omega),if_neg (by rintro ⟨w,hw,hx⟩; have:=h3 w hw x (by simp); omega)];refine A89 (fun y hy=>h1 y (by simp [hy])) hp.2 fun w hw y hy=> ?_;cases hw; exact hp.1 y hy
theorem B1F: ∀{l:List Int} {x y:Int},l.Pairwise (·< ·)->0≤A30 l x->0≤A30 l y->x<y->A30 l x<A30 l y
 | [],x,y,_,h,_,_=>by simp [A30] at h
 | z ::zs,x,y,h,hx,hy,hxy=>by
  have hp:=YV.1 h;simp only [A30] at hx hy ⊢;by_cases ex:z=x
  ·subst ex;rw [if_pos rfl];rw [if_neg (by omega)] at hy ⊢;split at hy
   ·omega
   ·rw [if_neg (by omega)]; omega
  ·rw [if_neg ex] at hx ⊢;split at hx
   ·omega
   ·have hxm:x∈zs:=(B0x zs x).1 (by omega);have:=hp.1 x hxm;rw [if_neg (by omega)] at hy ⊢;split at hy
    ·omega
    ·have:=B1F hp.2 (x:=x) (y:=y) (by omega) (by omega) hxy;rw [if_neg (by omega),if_neg (by omega)]; omega
def B4g (F:Int->Int) (x:E):E:=⟨F x.a,F x.b,x.m⟩
def A34 (F:Int->Int) (x:E):Bool:=decide (0≤F x.a∧0≤F x.b)
theorem B51 {es:List E} {a b m:Int} (h: ∀x,x∈es-> ¬(x.a=a∧x.b=b)):A19 es a b m=es++[⟨a,b,m⟩]:=by
 induction es with
 | nil=>rfl
 | cons x xs ih=>simp only [A19]; rw [if_neg (h x (by simp)),ih fun y hy=>h y (by simp [hy])]; rfl
def B52 (F:Int->Int):Prop:= ∀u v,0≤F u->0≤F v->u<v->F u<F v
theorem C1m {F:Int->Int} (hF:B52 F) {x y:E} (hx:A34 F x=true) (hy:A34 F y=true) (h:ltE x y):ltE (B4g F x) (B4g F y):=by
 simp only [A34,decide_eq_true_eq] at hx hy;unfold ltE B4g at*;simp only;rcases h with h | ⟨h,h2⟩
 ·exact .inl (hF _ _ hx.1 hy.1 h)
 ·exact .inr ⟨by rw [h],hF _ _ hx.2 hy.2 h2⟩
theorem B3c {F:Int->Int} (hF:B52 F): ∀(es acc:List E),(∀x,x∈es->x.a≤x.b)->es.Pairwise ltE->(∀y,y∈acc-> ∀x,x∈es->A34 F x=true->ltE y (B4g F x))->
  es.foldl (A2O F) acc=acc++(es.filter (A34 F)).map (B4g F)
 | [],acc,_,_,_=>by simp
 | x ::xs,acc,h1,h2,h3=>by
  have hp:=YV.1 h2;have hx:=h1 x (by simp);simp only [List.foldl_cons];by_cases hb:A34 F x=true
  ·have hb':=hb;simp only [A34,decide_eq_true_eq] at hb';have hab:F x.a≤F x.b:=by
    by_cases e:x.a=x.b
    ·rw [e]; omega
    ·have:=hF x.a x.b hb'.1 hb'.2 (by omega); omega
   have e1:min (F x.a) (F x.b)=F x.a:=by omega
   have e2:max (F x.a) (F x.b)=F x.b:=by omega
   have e:A2O F acc x=acc++[B4g F x]:=by
    unfold A2O;rw [if_pos hb',e1,e2,B51 fun y hy=> ?_]
    ·rfl
    ·have:=h3 y hy x (by simp) hb;unfold ltE B4g at this;simp only at this; omega
   rw [e,B3c hF xs _ (fun y hy=>h1 y (by simp [hy])) hp.2 (fun y hy z hz hzb=> ?_),Qj3 hb]
   ·simp
   ·rcases XW.1 hy with hy | hy
    ·exact h3 y hy z (by simp [hz]) hzb
    ·obtain rfl:=Zz.1 hy;exact C1m hF hb hzb (hp.1 z hz)
  ·have e:A2O F acc x=acc:=by
    unfold A2O; exact if_neg (by simpa [A34] using hb)
   rw [e,B3c hF xs _ (fun y hy=>h1 y (by simp [hy])) hp.2 (fun y hy z hz hzb=>h3 y hy z (by simp [hz]) hzb),Qj4 hb]
theorem B7A {F:Int->Int} (hF:B52 F) {es:List E} (h1: ∀x,x∈es->x.a≤x.b) (h2:es.Pairwise ltE):B2V F es=(es.filter (A34 F)).map (B4g F):=by
 unfold B2V;rw [B3c hF es [] h1 h2 (by simp)]; rfl
theorem A8A {F:Int->Int} (hF:B52 F) {es:List E} (h2:es.Pairwise ltE):((es.filter (A34 F)).map (B4g F)).Pairwise ltE:=by
 rw [JJ];have h3:(es.filter (A34 F)).Pairwise fun x y=>ltE x y∧A34 F x=true∧A34 F y=true:=by
  rw [List.pairwise_filter];exact h2.imp fun {x y} h hx hy=>⟨h,hx,hy⟩
 exact h3.imp fun {x y} h=>C1m hF h.2.1 h.2.2 h.1
theorem C0j {F:Int->Int} (hF:B52 F) {es:List E} (h1: ∀x,x∈es->x.a≤x.b) (h2:es.Pairwise ltE):A2K (B2V F es)=(es.filter (A34 F)).map (B4g F):=by
 rw [B7A hF h1 h2];exact B9L (A8A hF h2) (List.Perm.refl _)
def B7B (q:Int->Bool):List (Int×Int)->Int
 | []=>0
 | p::l=>(if q p.1=q p.2 then 0 else 1)+B7B q l
def A5d (q:Int->Bool):List (Int×Int)->Int
 | []=>0
 | p::l=>(if q p.1=true∧q p.2=true then 1 else 0)+A5d q l
theorem B1G (q:Int->Bool) (a b:List (Int×Int)):A5d q (a++b)=A5d q a+A5d q b:=by
 induction a with
 | nil=>simp [A5d]
 | cons x xs ih=>simp only [List.cons_append,A5d,ih]; omega
theorem B7C (q:Int->Bool) (p:Int×Int) (k:Nat):A5d q (List.replicate k p)=if q p.1=true∧q p.2=true then (k:Int) else 0:=by
 induction k with
 | zero=>simp [A5d]
 | succ k ih=>rw [List.replicate_succ]; simp only [A5d,ih]; split<;>omega
theorem B7D (set:List Int) (l:List (Int×Int)):((B9V set l).length:Int)=B7B (fun v=>decide (v∈set)) l:=by
 have key: ∀(l:List (Int×Int)) (k:Nat),((((l.zipIdx k).filterMap fun q=>if B9U set q.1 then some (q.2:Int) else none).length:Nat):Int)=B7B (fun v=>decide (v∈set)) l:=by
  intro l
  induction l with
  | nil=>intro k; rfl
  | cons p l ih=>
   intro k;rw [List.zipIdx_cons,List.filterMap_cons];simp only [B7B];by_cases h:decide (p.1∈set)=decide (p.2∈set)
   ·rw [if_pos h];have hs:B9U set p=false:=by unfold B9U; rw [decide_eq_true h]; rfl
    simp only [hs,YJ,if_false];rw [ih]; omega
   ·rw [if_neg h];have hs:B9U set p=true:=by unfold B9U; rw [decide_eq_false h]; rfl
    simp only [hs,if_true,List.length_cons];have:=ih (k+1);omega
 exact key l 0
theorem C1Z {q:Int->Bool} {n:Nat} {l:List (Int×Int)} (hr: ∀p,p∈l->(0≤p.1∧p.1<n)∧(0≤p.2∧p.2<n)):
  sumR (fun v=>if q v then A6x v l else 0) n=B7B q l+2*A5d q l:=by
 induction l with
 | nil=>simp only [A6x,B7B,A5d]; rw [A2N fun _ _=>by simp]; rfl
 | cons p l ih=>
  have h1:=hr p (by simp);have h2:=ih fun x hx=>hr x (by simp [hx]);have h3:sumR (fun v=>if q v then A6x v (p::l) else 0) n=sumR (fun v=>if (v:Int)=p.1 then (if q p.1 then 1 else 0) else 0) n+sumR (fun v=>if (v:Int)=p.2 then (if q p.2 then 1 else 0) else 0) n+sumR (fun v=>if q v then A6x v l else 0) n:=by
   rw [<-A3I,<-A3I];refine A1w fun i _=> ?_;simp only [A6x,b2i];have c1:(if p.1=(i:Int) then (1:Int) else 0)=if (i:Int)=p.1 then 1 else 0:=by
    by_cases e:(i:Int)=p.1
    ·rw [if_pos e,if_pos e.symm]
    ·rw [if_neg e,if_neg fun h=>e h.symm]
   have c2:(if p.2=(i:Int) then (1:Int) else 0)=if (i:Int)=p.2 then 1 else 0:=by
    by_cases e:(i:Int)=p.2
    ·rw [if_pos e,if_pos e.symm]
    ·rw [if_neg e,if_neg fun h=>e h.symm]
   rw [c1,c2];have q1:(i:Int)=p.1->q p.1=q i:=fun e=>by rw [e]
   have q2:(i:Int)=p.2->q p.2=q i:=fun e=>by rw [e]
   by_cases e1:(i:Int)=p.1
   ·by_cases e2:(i:Int)=p.2
    ·rw [if_pos e1,if_pos e2,if_pos e1,if_pos e2,q1 e1,q2 e2]; split<;>omega
    ·rw [if_pos e1,if_neg e2,if_pos e1,if_neg e2,q1 e1]; split<;>omega
   ·by_cases e2:(i:Int)=p.2
    ·rw [if_neg e1,if_pos e2,if_neg e1,if_pos e2,q2 e2]; split<;>omega
    ·rw [if_neg e1,if_neg e2,if_neg e1,if_neg e2]; split<;>omega
  rw [h3,h2,A3J h1.1.1 h1.1.2,A3J h1.2.1 h1.2.2];simp only [B7B,A5d];cases hq1:q p.1<;>cases hq2:q p.2<;>simp<;>omega
theorem B53 {q r:Int->Bool} {l:List (Int×Int)} (h: ∀p,p∈l->q p.1=r p.1∧q p.2=r p.2):B7B q l=B7B r l:=by
 induction l with
 | nil=>rfl
 | cons p l ih=>
  have h1:=h p (by simp);simp only [B7B,ih fun x hx=>h x (by simp [hx]),h1.1,h1.2]
theorem B3d {q r:Int->Bool} {l:List (Int×Int)} (h: ∀p,p∈l->q p.1=r p.1∧q p.2=r p.2):A5d q l=A5d r l:=by
 induction l with
 | nil=>rfl
 | cons p l ih=>
  have h1:=h p (by simp);simp only [A5d,ih fun x hx=>h x (by simp [hx]),h1.1,h1.2]
theorem C0k {F:Int->Int} {es:List E} (hm: ∀x,x∈es->1≤x.m):(((endsL ((es.filter (A34 F)).map (B4g F))).length:Nat):Int)=A5d (fun v=>decide (0≤F v)) (endsL es):=by
 induction es with
 | nil=>rfl
 | cons x xs ih=>
  have h1:=hm x (by simp);have h2:=ih fun y hy=>hm y (by simp [hy]);rw [A6I,B1G,B7C,<-h2];by_cases hb:A34 F x=true
  ·rw [Qj3 hb,Xy,A6I,Xv,Yx];have hb':=hb;simp only [A34,decide_eq_true_eq] at hb';rw [if_pos (by simpa using hb')];simp only [B4g]; omega
  ·rw [Qj4 hb,if_neg (by simpa [A34] using hb)]; omega
theorem A3W {α β:Type} {f g:α->Option β}: ∀{l:List α},(∀x,x∈l->f x=g x)->l.filterMap f=l.filterMap g
 | [],_=>rfl
 | x::xs,h=>by
  rw [List.filterMap_cons,List.filterMap_cons,h x (by simp),A3W fun y hy=>h y (by simp [hy])]
theorem B7E {s t:List Int} {l:List (Int×Int)} (h: ∀p,p∈l->B9U s p=B9U t p):B9V s l=B9V t l:=by
 unfold B9V;refine A3W fun q hq=> ?_;have:q.1∈l:=by
  obtain ⟨a,i⟩:=q;have:=List.mem_zipIdx hq;simp at this;rw [this.2]; exact Xw _
 rw [h _ this]
theorem C2a {g:G} {n:Nat} (hc:checkG g=0) (hn:g.n=n) (p:Int->Bool):
  B2s g (inL p n)=0∧B2s g (inL (fun v=> !p v) n)=0∧B9V (inL p n) (endsL g.es)=B9V (inL (fun v=> !p v) n) (endsL g.es)∧
  (inL p n=[]->B9V (inL p n) (endsL g.es)=[])∧
  (inL p n≠[]->indE g (inL p n)=0∧checkG (B7x g (inL p n))=0∧(B7x g (inL p n)).es.length≤g.es.length∧
   sumR (fun v=>if p v then A6x v (endsL g.es) else 0) n=(B9V (inL p n) (endsL g.es)).length+2*(endsL (B7x g (inL p n)).es).length):=by
 obtain ⟨h1,h2,h3⟩:=A0j.1 hc;have hsub: ∀q:Int->Bool,B2s g (inL q n)=0:=fun q=>by
  unfold B2s;rw [if_neg (by omega)];refine A89 (fun x hx=> ?_) (A9H _ _) (fun w hw=>by cases hw);have:=(B3b.1 hx).1; omega
 have hr: ∀x,x∈endsL g.es->(0≤x.1∧x.1<n)∧(0≤x.2∧x.2<n):=fun x hx=>by
  obtain ⟨e,he,hx⟩:=Vw.1 hx;obtain rfl:=List.eq_of_mem_replicate hx;have:=h2 e he;unfold okE at this;simp only; omega
 have hmem: ∀(q:Int->Bool) (v:Int),0≤v->v<n->decide (v∈inL q n)=q v:=fun q v hv1 hv2=>by
  rw [Qj1]; simp [B3b,hv1,hv2]
 refine ⟨hsub p,hsub _,?_,?_,?_⟩
 ·refine B7E fun x hx=> ?_;have:=hr x hx;unfold B9U;rw [hmem p x.1 (by omega) (by omega),hmem p x.2 (by omega) (by omega),hmem (fun v=> !p v) x.1 (by omega) (by omega),hmem (fun v=> !p v) x.2 (by omega) (by omega)];cases p x.1<;>cases p x.2<;>rfl
 ·intro e;rw [e];have:((B9V [] (endsL g.es)).length:Int)=0:=by
   rw [B7D];generalize endsL g.es=l
   induction l with
   | nil=>rfl
   | cons x xs ih=>simp only [B7B]; simp; simpa using ih
  exact ZV.1 (by omega)
 ·intro hne;have hF:B52 (A30 (inL p n)):=fun u v hu hv huv=>B1F (A9H _ _) hu hv huv;have hE:indE g (inL p n)=0:=by unfold indE; rw [if_neg (by rw [hsub]; simp),if_neg hne]
  have hlen:=C1Y p n;have hl0:0<(inL p n).length:=YX.2 hne;have hG:B7x g (inL p n)=⟨(inL p n).length,(g.es.filter (A34 (A30 (inL p n)))).map (B4g (A30 (inL p n)))⟩:=by
   unfold B7x;rw [if_neg (by rw [hE]; simp),C0j hF (fun x hx=>by have:=h2 x hx; unfold okE at this; omega) h3]
  refine ⟨hE,?_,?_,?_⟩
  ·rw [hG,A0j];refine ⟨by simp only; omega,fun e he=> ?_,A8A hF h3⟩;obtain ⟨x,hx,rfl⟩:=Xq.1 he;obtain ⟨hx,hb⟩:=JX.1 hx;have hok:=h2 x hx;simp only [A34,decide_eq_true_eq] at hb;have hlt:=B7u (inL p n) x.b;have hab:A30 (inL p n) x.a≤A30 (inL p n) x.b:=by
    by_cases e:x.a=x.b
    ·rw [e]; omega
    ·have:=hF x.a x.b hb.1 hb.2 (by unfold okE at hok; omega); omega
   unfold okE at*;simp only [B4g]; omega
  ·rw [hG]; simp only [XY]; exact WV _ _
  ·rw [C1Z hr,B7D,hG];simp only;rw [C0k (fun x hx=>by have:=h2 x hx; unfold okE at this; omega)];rw [B53 (q:=p) (r:=fun v=>decide (v∈inL p n)),B3d (q:=p) (r:=fun v=>decide (0≤A30 (inL p n) v))]
   ·intro x hx;have:=hr x hx;have e: ∀v:Int,0≤v->v<n->p v=decide (0≤A30 (inL p n) v):=fun v hv1 hv2=>by
     rw [<-hmem p v hv1 hv2]; exact decide_eq_decide.2 (B0x _ _).symm
    exact ⟨e _ (by omega) (by omega),e _ (by omega) (by omega)⟩
   ·intro x hx;have:=hr x hx;exact ⟨(hmem p _ (by omega) (by omega)).symm,(hmem p _ (by omega) (by omega)).symm⟩
def B1H (es:List E) (v:Int) (n:Nat):Int:=sumR (fun u=>if (u:Int)=v then 0 else A1E es (min (u:Int) v) (max (u:Int) v)) n
theorem A6g {g:G} (hc:checkG g=0) (a b:Int):0≤A1E g.es a b∧A1E g.es a b≤50:=by
 have hmul:=(A0j.1 hc).2.1;exact ⟨B2O fun e he=>by have:=hmul e he; unfold okE at this; omega,B2N (fun e he=>by have:=hmul e he; unfold okE at this; omega) (by omega)⟩
theorem C0l {g:G} {n:Nat} (hc:checkG g=0) (hn:g.n=n) {v:Int} (hv:0≤v∧v<n):B1H g.es v n=B7c v g.es:=by
 have h1:=(B7p hc hn).2.2 v;have h2:sumR (fun u=>A1E g.es (min v u) (max v u)) n=B1H g.es v n+sumR (fun u=>if (u:Int)=v then A1E g.es v v else 0) n:=by
  unfold B1H;rw [<-A3I];refine A1w fun i _=> ?_;by_cases e:(i:Int)=v
  ·rw [if_pos e,if_pos e,e,Int.min_self,Int.max_self]; omega
  ·rw [if_neg e,if_neg e,Int.min_comm,Int.max_comm]; omega
 rw [A3J hv.1 hv.2] at h2;omega
theorem B3e (g:G) (n:Nat) (hc:checkG g=0) (hn:g.n=n) (hl:g.es.length<2^30) (v:Int):ACall Tryz.prog 183 [tG g,A0k v] (A0k (B1H g.es v n)):=by
 have hn12:=(A0j.1 hc).1;have hVb: ∀u,u≤n->0≤B1H g.es v u∧B1H g.es v u≤600:=fun u hu=>by
  have:=A9B (f:=fun u=>if (u:Int)=v then 0 else A1E g.es (min (u:Int) v) (max (u:Int) v)) (n:=u) (k:=50) (fun i _=>by have:=A6g hc (min (i:Int) v) (max (i:Int) v); (try simp only); split<;>omega);unfold B1H; omega
 refine ACall.of_body Tryz.func183 rfl (by kernel_rfl) ?_;simp only [entry,Tryz.ntmps183,tG,A0k];refine zU ?_;refine zR Qw6 Qw6 Qw6 ?_;refine AWp.loopS (α:=Nat) 23 (fun u=>[(1,.c (.int .i64 v)),(2,.c (.ptr 0 0)),(5,.c (.int .i64 (B1H g.es v u))),(6,.c (.int .i64 (u:Int)))]) (fun u=>[.box [.int .i64 g.n,.slice (A0f g.es) .none]]) (fun u=>u≤n) (fun u=>n-u) (0) (hk:=A0r.headL 1 23 [1,2,5,6] zW) (h0:=?_) (round:=fun u hI=>?_)
 ·exact Xj _
 ·have hun:u≤n:=hI;clear hI;by_cases hlt:u<n
  ·have hltI:(u:Int)<g.n:=by omega
   have hb:=A50 g u v (by omega);have hcb:=A6g hc (min (u:Int) v) (max (u:Int) v);have hV:=hVb u hun;have hV1:B1H g.es v (u+1)=B1H g.es v u+(if (u:Int)=v then 0 else A1E g.es (min (u:Int) v) (max (u:Int) v)):=rfl;generalize B1H g.es v u=S at*;generalize A1E g.es (min (u:Int) v) (max (u:Int) v)=k at*
   repeat' (first|((first|(refine zT ?_;intro K' hK')|(refine zG ?_ ?_<;>(try refine zH ?_)<;>intro hguard<;>(try exact zX)<;>try intro K' hK'))<;>((try simp+contextual only [go_sem,hltI]);(repeat' first|(with_reducible refine hK' _ _ ?_;clear hK' K')|(with_reducible refine zK hb ?_;try simp+contextual only [go_sem,hltI])|exact zY|with_reducible refine Qw5 ?_ ?_|(with_reducible intro hpath;try exact zP)|(refine hK' _ _ ?_;clear hK' K')|fail);try refine zS ?_))|(refine zE ?_;refine hK _ _ ?_;clear hK K)|(refine zN ?_;try refine zS ?_)|refine zA ?_|(refine zB ?_;intro K hK)|(refine zC ?_ ?_<;>(try refine zH ?_)<;>intro hcond<;>try exact zX)|fail)
   ·rw [if_neg (by assumption)] at hV1;refine ⟨u+1,A0r.headF 1 23 [1,2,5,6] (zc @hV1 Qw6) zW,?_,?_⟩
    ·exact hlt
    ·omega
   ·rw [if_pos (by assumption),Int.add_zero] at hV1;refine ⟨u+1,A0r.headF 1 23 [1,2,5,6] (zc @hV1 Qw6) zW,?_,?_⟩
    ·exact hlt
    ·omega
  ·have eu:u=n:=by omega
   subst eu;have hnl: ¬((u:Int)<g.n):=by omega
   refine zR (zc @hnl Qw6) Qw6 Qw6 ?_;simp [A0y,A0x,Blk.cells,ty,Tryz.results183,A0s,A0u,toT,A0e,A0b,A0c,A0a,A0k]
theorem B54 (g:G) (n:Nat) (hc:checkG g=0) (hn:g.n=n) (hl:g.es.length<2^30) (v:Int):ACall Tryz.prog 156 [tG g,A0k v] (A0k (B1H g.es v n+2*A1E g.es v v)):=by
 have hn12:=(A0j.1 hc).1;have hVb:0≤B1H g.es v n∧B1H g.es v n≤600:=by
  have:=A9B (f:=fun u=>if (u:Int)=v then 0 else A1E g.es (min (u:Int) v) (max (u:Int) v)) (n:=n) (k:=50) (fun i _=>by have:=A6g hc (min (i:Int) v) (max (i:Int) v); (try simp only); split<;>omega);unfold B1H; omega
 have hb:=A50 g v v (by omega);rw [Int.min_self,Int.max_self] at hb;have hcb:=A6g hc v v;have hv:=B3e g n hc hn hl v;refine ACall.of_body Tryz.func156 rfl (by kernel_rfl) ?_;simp only [entry,Tryz.ntmps156,tG,A0k];refine zU ?_;generalize B1H g.es v n=S at*;generalize A1E g.es v v=k at*;refine zR Qw6 (zc hv (zc hb Qw6)) Qw6 ?_;simp [A0y,A0x,Blk.cells,ty,Tryz.results156,A0s,A0u,toT,A0e,A0b,A0c,A0a,A0k]
end Go.Proofs.YtdbdfkohpjefjaaGreat
