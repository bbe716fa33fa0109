/- A part of the proof. -/
import Derived.Test.YtdbdfkohpjefjaaGreatPart25
import Derived.Test.YtdbdfkohpjefjaaGreatPart16
set_option linter.all false
set_option maxHeartbeats 4000000
set_option maxRecDepth 100000
namespace Go.Proofs.YtdbdfkohpjefjaaGreat
open Go.Sp
set_option maxHeartbeats 1000000
def mulE:List E->Nat->Nat->Int
 | [],_,_=>0
 | e::es,u,v=>(if e.a≠e.b∧((e.a=u∧e.b=v)∨(e.b=u∧e.a=v)) then e.m else 0)+mulE es u v
structure EsOk (n:Nat) (es:List E):Prop where
 rng: ∀e,e∈es->(0≤e.a∧e.a<n)∧(0≤e.b∧e.b<n)∧0≤e.m∧e.m≤50
theorem EsOk.tail {n:Nat} {e:E} {es:List E} (h:EsOk n (e::es)):EsOk n es:=⟨fun x hx=>h.rng x (by simp [hx])⟩
theorem B4w: ∀(es:List E) (u v:Nat),mulE es u v=mulE es v u
 | [],_,_=>rfl
 | e::es,u,v=>by
  unfold mulE;rw [B4w es u v];congr 1;by_cases h:e.a≠e.b∧((e.a=u∧e.b=v)∨(e.b=u∧e.a=v))
  ·rw [if_pos h,if_pos ⟨h.1,h.2.elim (fun q=> .inr ⟨q.2,q.1⟩) (fun q=> .inl ⟨q.2,q.1⟩)⟩]
  ·rw [if_neg h,if_neg (fun q=>h ⟨q.1,q.2.elim (fun q=> .inr ⟨q.2,q.1⟩) (fun q=> .inl ⟨q.2,q.1⟩)⟩)]
theorem B4x: ∀(es:List E) (v:Nat),mulE es v v=0
 | [],_=>rfl
 | e::es,v=>by
  unfold mulE;rw [B4x es v,if_neg (fun q=>by rcases q with ⟨q1,q2 | q2⟩<;>exact q1 (by omega))]; rfl
theorem B0C {n:Nat}: ∀{es:List E},EsOk n es-> ∀(u v:Nat),0≤mulE es u v
 | [],_,_,_=>Qz7 _
 | e::es,h,u,v=>by
  have:=B0C h.tail u v;have:=h.rng e (by simp);unfold mulE;split<;>omega
theorem B8y {n:Nat}: ∀{es:List E},EsOk n es-> ∀{e:E},e∈es->e.a≠e.b-> ∀{u v:Nat},(e.a=u∧e.b=v)∨(e.b=u∧e.a=v)->e.m≤mulE es u v
 | [],_,e,he,_,_,_,_=>by cases he
 | x::es,h,e,he,hne,u,v,huv=>by
  have h1:=B0C h.tail u v;have h2:=h.rng x (by simp);unfold mulE;rcases Qw.1 he with rfl | he
  ·rw [if_pos ⟨hne,huv⟩]; omega
  ·have:=B8y h.tail he hne huv;split<;>omega
theorem C2D {g:G} {n:Nat} (hc:checkG g=0) (hn:g.n=n) (hcon:connB g=true):EsOk n g.es∧Mult n (mulE g.es):=by
 have h:=A0j.1 hc;have hE:EsOk n g.es:=⟨fun e he=>by have:=h.2.1 e he; unfold okE at this; omega⟩;refine ⟨hE,B4w _,B0C hE,B4x _,fun S hS hS'=> ?_⟩;obtain ⟨a,ha,hSa⟩:=hS;obtain ⟨b,hb,hSb⟩:=hS';rw [A3D hc hn,decide_eq_true_eq] at hcon;have hab:=A77 (A6j n _) hcon ha hb;refine ZV fun hx=> ?_;have key: ∀{x y:Nat},Conn (endsL g.es) x y->S x=true->S y=true:=fun {x y} hxy=>by
  induction hxy with
  | refl=>exact id
  | step hp hs ih=>
   rename_i y z;intro hx1;have hy:=ih hx1;refine ZV fun hz=>hx ?_;rw [Qq5] at hz;obtain ⟨e,he,hye⟩: ∃e,e∈g.es∧((e.a=y∧e.b=z)∨(e.b=y∧e.a=z)):=by
    rcases hs with hs | hs
    ·obtain ⟨e,he,q⟩:=A37 hs;have q1:=congrArg Prod.fst q;have q2:=congrArg Prod.snd q;exact ⟨e,he,.inl ⟨by simpa using q1.symm,by simpa using q2.symm⟩⟩
    ·obtain ⟨e,he,q⟩:=A37 hs;have q1:=congrArg Prod.fst q;have q2:=congrArg Prod.snd q;exact ⟨e,he,.inr ⟨by simpa using q2.symm,by simpa using q1.symm⟩⟩
   have hr:=h.2.1 e he;unfold okE at hr;have hne:e.a≠e.b:=by
    intro q;have:y=z:=by rcases hye with q2 | q2<;>omega
    rw [this,hz] at hy; cases hy
   refine ⟨y,z,by rcases hye with q | q<;>omega,by rcases hye with q | q<;>omega,hy,hz,?_⟩;have:=B8y hE he hne hye;omega
 rw [key hab hSa] at hSb; cases hSb
set_option maxHeartbeats 1000000
def isJ (p:Int×Int) (u v:Nat):Prop:=p.1≠p.2∧((p.1=u∧p.2=v)∨(p.2=u∧p.1=v))
instance (p:Int×Int) (u v:Nat):Decidable (isJ p u v):=by unfold isJ; infer_instance
def cJ:List (Int×Int)->Nat->Nat->Int
 | [],_,_=>0
 | p::l,u,v=>(if isJ p u v then 1 else 0)+cJ l u v
theorem C1B (l m:List (Int×Int)) (u v:Nat):cJ (l++m) u v=cJ l u v+cJ m u v:=by
 induction l with
 | nil=>simp [cJ]
 | cons p l ih=>simp only [List.cons_append,cJ,ih]; omega
theorem C4e (p:Int×Int) (k:Nat) (u v:Nat):cJ (List.replicate k p) u v=if isJ p u v then (k:Int) else 0:=by
 induction k with
 | zero=>simp [cJ]
 | succ k ih=>rw [List.replicate_succ]; simp only [cJ,ih]; split<;>omega
theorem C2E {es:List E} (h: ∀e,e∈es->0≤e.m) (u v:Nat):cJ (endsL es) u v=mulE es u v:=by
 induction es with
 | nil=>rfl
 | cons e es ih=>
  have h1:endsL (e::es)=List.replicate e.m.toNat (e.a,e.b)++endsL es:=rfl;have h2:=h e (by simp);rw [h1,C1B,C4e,ih fun x hx=>h x (by simp [hx])];have h3:mulE (e::es) u v=(if e.a≠e.b∧((e.a=u∧e.b=v)∨(e.b=u∧e.a=v)) then e.m else 0)+mulE es u v:=rfl;rw [h3]; unfold isJ;rw [Int.toNat_of_nonneg h2]
set_option maxHeartbeats 2000000
theorem B8z {P Q:Prop} [Decidable P] [Decidable Q] (h:P↔Q) {α:Type} {x y:α}:(if P then x else y)=if Q then x else y:=by
 by_cases hp:P
 ·rw [if_pos hp,if_pos (h.1 hp)]
 ·rw [if_neg hp,if_neg fun q=>hp (h.2 q)]
set_option maxHeartbeats 2000000
section
variable {E n:Nat} {s g:Nat->Nat} {t t':Nat->Bool} {p p':Nat->Nat} {h0:Nat}
theorem B80 {P:Nat->Prop}: ∀k,P k-> ∃i,i≤k∧P i∧ ∀j,j<i-> ¬P j:=by
 intro k
 induction k using Nat.strongRecOn with
 | ind k ih=>
  intro hk;by_cases h: ∃j,j<k∧P j
  ·obtain ⟨j,hj,hp⟩:=h;obtain ⟨i,h1,h2,h3⟩:=ih j hj hp;exact ⟨i,by omega,h2,h3⟩
  ·exact ⟨k,QQ _,hk,fun j hj hp=>h ⟨j,hj,hp⟩⟩
structure BrkD (E n:Nat) (g:Nat->Nat) (D:Nat->Int):Prop where
 deg:sumR D n=E-n+1
 low: ∀A:Nat->Bool,(∃v,v<n∧A v=true)->sumR (fun e=>if A (g (2*e))=true∧A (g (2*e+1))=true then 1 else 0) E-sumR (fun v=>if A v=true then 1 else 0) n+1≤sumR (fun v=>if A v=true then D v else 0) n
variable {M:Nat->Nat->Int}
def Joins (E n:Nat) (g:Nat->Nat) (M:Nat->Nat->Int):Prop:= ∀u v,u<n->v<n->u≠v->M u v=sumR (fun f=>(if g (2*f)=u∧g (2*f+1)=v then 1 else 0)+if g (2*f)=v∧g (2*f+1)=u then 1 else 0) E
end
set_option maxHeartbeats 2000000
theorem B81 {n:Nat} {R:Nat->Nat->Prop} (h0:0<n) (h: ∀x y,x<n->y<n->R x y):ncls n R=1:=by
 rw [A2B (S:=fun x y=>(fun _:Nat=>0) x=(fun _:Nat=>0) y) fun x y hx hy=>⟨fun _=>rfl,fun _=>h x y hx hy⟩];exact A88 _ (fun x _=>by omega) fun v hv=>⟨0,h0,by omega⟩
def B3v (L:List (Int×Int)) (g:Nat->Nat):Prop:= ∀k,k<L.length->L[k]? =some (((g (2*k):Nat):Int),((g (2*k+1):Nat):Int))
section
variable {n:Nat} {L:List (Int×Int)} {g:Nat->Nat} {t:List Int}
theorem C4f (hg:B3v L g) {x:Int} (h0:0≤x) (hx:x<L.length):L.getD x.toNat (0,0)=(((g (2*x.toNat):Nat):Int),((g (2*x.toNat+1):Nat):Int)):=by
 rw [Qz,hg _ (by omega)]; rfl
theorem A9O (hg:B3v L g):A5i (pkL L t)->(∀x,x∈t->0≤x∧x<L.length)->t.Nodup:=by
 refine A5a (P:=fun t=>A5i (pkL L t)->(∀x,x∈t->0≤x∧x<L.length)->t.Nodup) ?_ ?_ t
 ·intro _ _; exact List.nodup_nil
 ·intro t x ih h ht;have e0:pkL L (t++[x])=pkL L t++[L.getD x.toNat (0,0)]:=by simp [pkL]
  rw [e0,A3C] at h
  refine JZ.2 ⟨ih h.1 fun y hy=>ht y (by simp [hy]),by simp,fun a ha b hb=>by
   simp at hb; subst hb; rintro rfl;have hx:=ht a (by simp);have:=C4f hg hx.1 hx.2;refine h.2 (.one (.inl ?_));rw [this]
   exact Xq.2 ⟨a,ha,by rw [this]; rfl⟩⟩
end
set_option maxHeartbeats 2000000
structure Arnd (n E:Nat) (g:Nat->Nat) (ar:Nat->List Nat):Prop where
 mem: ∀v x,v<n->(x∈ar v↔x<2*E∧g x=v)
 nd: ∀v,v<n->(ar v).Nodup
def C0N (g:Nat->Nat) (ar:Nat->List Nat) (v:Nat):List Nat:=(ar v).map fun x=>g (oppH x)
def C4g (n q:Nat) (g H:Nat->Nat):Prop:= ∀S:Nat->Bool,S q=false->(∃v,v<n∧S v=true)-> ∃v,v<n∧S v=true∧S (g (oppH (H v)))=false
def C0O (ar:Nat->List Nat) (R:Nat->Nat) (v:Nat):Nat:=(ar v).getD (R v%(ar v).length) 0
def A8B (n q:Nat) (H:Nat->Nat):List Int:=((List.range n).filter fun v=>decide (v≠q)).map fun v=>((H v / 2:Nat):Int)
section
variable {n q:Nat} {L:List (Int×Int)} {g H H':Nat->Nat} {ar:Nat->List Nat} {t:List Int} {M:Nat->Nat->Int}
theorem B1Z {x:Int}:x∈A8B n q H↔ ∃v,v<n∧v≠q∧x=((H v / 2:Nat):Int):=by
 unfold A8B;rw [Xq];constructor
 ·rintro ⟨v,hv,rfl⟩;obtain ⟨h1,h2⟩:=YW.1 hv;exact ⟨v,XQ.1 h1,of_decide_eq_true h2,rfl⟩
 ·rintro ⟨v,h1,h2,rfl⟩;exact ⟨v,YW.2 ⟨XQ.2 h1,decide_eq_true h2⟩,rfl⟩
theorem B0D (hq:q<n):((List.range n).filter fun v=>decide (v≠q)).length+1=n:=by
 have h1: ∀k,((List.range k).filter fun v=>decide (v≠q)).length+(if q<k then 1 else 0)=k:=fun k=>by
  induction k with
  | zero=>rfl
  | succ k ih=>
   rw [Ww,VV,Xw];by_cases h:k=q
   ·rw [Qw0 (by simp [h]),List.filter_nil,List.length_nil,if_pos (by omega)];rw [if_neg (by omega)] at ih; omega
   ·rw [Qj9 (by simp [h]),List.filter_nil,List.length_singleton];by_cases h2:q<k
    ·rw [if_pos h2] at ih; rw [if_pos (by omega)]; omega
    ·rw [if_neg h2] at ih; rw [if_neg (by omega)]; omega
 have:=h1 n;rw [if_pos hq] at this; exact this
theorem B82 (hq:q<n):((A8B n q H).length:Int)=n-1:=by
 unfold A8B; rw [XW]; have:=B0D hq; omega
theorem C2F (hg:B3v L g) {x:Nat} (hx:x<2*L.length):L.getD (((x / 2:Nat):Int).toNat) (0,0)=(((g x:Nat):Int),((g (oppH x):Nat):Int))∨L.getD (((x / 2:Nat):Int).toNat) (0,0)=(((g (oppH x):Nat):Int),((g x:Nat):Int)):=by
 have h:=C4f hg (x:=((x / 2:Nat):Int)) (by omega) (by omega);rw [h,Int.toNat_natCast];rcases Nat.mod_two_eq_zero_or_one x with e | e
 ·left;have e1:2*(x / 2)=x:=by omega
  have e2:2*(x / 2)+1=oppH x:=by unfold oppH; omega
  rw [e2,e1]
 ·right;have e1:2*(x / 2)+1=x:=by omega
  have e2:2*(x / 2)=oppH x:=by unfold oppH; omega
  rw [e1,e2]
open Classical in
theorem B5O (hq:q<n) (hg:B3v L g) (hH: ∀v,v<n->v≠q->H v<2*L.length∧g (H v)=v) (ha:C4g n q g H):treeB n L (A8B n q H)=true:=by
 have hst: ∀v,v<n->v≠q->Conn (pkL L (A8B n q H)) v (g (oppH (H v))):=fun v hv hn=>by
  obtain ⟨h1,h2⟩:=hH v hv hn;refine .one ?_;have hm:L.getD (((H v / 2:Nat):Int).toNat) (0,0)∈pkL L (A8B n q H):=Xq.2 ⟨_,B1Z.2 ⟨v,hv,hn,rfl⟩,rfl⟩;rcases C2F hg h1 with e | e
  ·rw [e,h2] at hm; exact .inl hm
  ·rw [e,h2] at hm; exact .inr hm
 have hall: ∀v,v<n->Conn (pkL L (A8B n q H)) v q:=fun v hv=>by
  refine ZV fun hc=> ?_;obtain ⟨x,hx,h1,h2⟩:=ha (fun v=>decide (¬Conn (pkL L (A8B n q H)) v q)) (decide_eq_false fun h=>h .refl) ⟨v,hv,decide_eq_true hc⟩;have h1:=of_decide_eq_true h1;have h2:Conn (pkL L (A8B n q H)) (g (oppH (H x))) q:=ZV fun h=>(of_decide_eq_false h2) h;have hxq:x≠q:=by rintro rfl; exact h1 .refl
  exact h1 ((hst x hx hxq).trans h2)
 unfold treeB;exact decide_eq_true ⟨B82 hq,B81 (by omega) fun x y hx hy=>(hall x hx).trans (hall y hy).symm⟩
theorem C0P (ha:Arnd n L.length g ar) (R:Nat->Nat) {v:Nat} (hv:v<n) (hp:0<(ar v).length):C0O ar R v<2*L.length∧g (C0O ar R v)=v:=by
 refine (ha.mem v _ hv).1 ?_;unfold C0O;have:=Qq0 (R v) hp;rw [Qz,Qq this]; exact Xv this
theorem B4y (R:Nat->Nat) {v:Nat} (hp:0<(ar v).length):tgt (C0N g ar) v (R v)=g (oppH (C0O ar R v)):=by
 unfold tgt C0N C0O;rw [XW];have:=Qq0 (R v) hp;rw [Qz,Qz,QY,Qq this]; rfl
theorem B83 (hp: ∀v,v<n->v≠q->0<(ar v).length) {R:Nat->Nat}:C3S n q (C0N g ar) R↔C4g n q g (C0O ar R):=by
 constructor
 ·intro h S hS hx;obtain ⟨v,hv,h1,h2⟩:=h S hS hx;refine ⟨v,hv,h1,?_⟩;rwa [B4y R (hp v hv (by rintro rfl; rw [hS] at h1; cases h1))] at h2
 ·intro h S hS hx;obtain ⟨v,hv,h1,h2⟩:=h S hS hx;refine ⟨v,hv,h1,?_⟩;rwa [B4y R (hp v hv (by rintro rfl; rw [hS] at h1; cases h1))]
end
set_option maxHeartbeats 2000000
section
variable {n q:Nat} {L:List (Int×Int)} {g s:Nat->Nat} {ar:Nat->List Nat} {M:Nat->Nat->Int} {h0:Nat}
theorem A8C (F:Nat->Int): ∀E:Nat,sumR F (2*E)=sumR (fun f=>F (2*f)+F (2*f+1)) E
 | 0=>rfl
 | E+1=>by
  rw [show 2*(E+1)=2*E+1+1 by omega,sumR,sumR,sumR,A8C F E]; omega
theorem C2G {l:List Nat} (hnd:l.Nodup) (p:Nat->Bool) {N:Nat} (hl: ∀x,x∈l->x<N):sumR (fun x=>if x∈l∧p x=true then 1 else 0) N=((l.countP p:Nat):Int):=by
 revert hnd hl;refine A5a (P:=fun l:List Nat=>l.Nodup->(∀x,x∈l->x<N)->sumR (fun x=>if x∈l∧p x=true then 1 else 0) N=((l.countP p:Nat):Int)) ?_ ?_ l
 ·intro _ _; exact A6b fun x _=>by simp
 ·intro l x ih hnd hl;have hx:x∉l:=fun hx=>(JZ.1 hnd).2.2 x hx x (by simp) rfl;have h1:=ih (JZ.1 hnd).1 fun y hy=>hl y (by simp [hy]);have e:sumR (fun y=>if y∈l++[x]∧p y=true then (1:Int) else 0) N=sumR (fun y=>(if y∈l∧p y=true then (1:Int) else 0)+if y=x then (if p x=true then 1 else 0) else 0) N:=A1m fun y _=>by
   by_cases q:y=x
   ·subst q; simp [hx]
   ·simp [q]
  rw [e,B03,h1,A9D _ _ (hl x (by simp)),List.countP_append];cases q:p x<;>simp [Qz6,q]
theorem B4z (hA:Arnd n L.length g ar) (hJ:Joins L.length n g M) {v w:Nat} (hv:v<n) (hw:w<n) (hn:v≠w):((C0N g ar v).count w:Int)=M v w:=by
 unfold C0N;rw [List.count_eq_countP,List.countP_map,hJ v w hv hw hn,<-C2G (hA.nd v hv) _ (N:=2*L.length) fun x hx=>((hA.mem v x hv).1 hx).1,A8C];refine A1m fun f hf=> ?_;have e1:oppH (2*f)=2*f+1:=by unfold oppH; omega
 have e2:oppH (2*f+1)=2*f:=by unfold oppH; omega
 have k1:(2*f∈ar v∧((fun x=>x==w)∘fun x=>g (oppH x)) (2*f)=true)↔(g (2*f)=v∧g (2*f+1)=w):=by
  rw [hA.mem v _ hv,Function.comp_apply,e1,beq_iff_eq];exact ⟨fun h=>⟨h.1.2,h.2⟩,fun h=>⟨⟨by omega,h.1⟩,h.2⟩⟩
 have k2:(2*f+1∈ar v∧((fun x=>x==w)∘fun x=>g (oppH x)) (2*f+1)=true)↔(g (2*f)=w∧g (2*f+1)=v):=by
  rw [hA.mem v _ hv,Function.comp_apply,e2,beq_iff_eq];exact ⟨fun h=>⟨h.2,h.1.2⟩,fun h=>⟨⟨by omega,h.2⟩,h.1⟩⟩
 rw [B8z k1,B8z k2]
theorem C4h (hM:Mult n M) (hq:q<n) (hgl: ∀x,x<2*L.length->g x<n) (hA:Arnd n L.length g ar) (hJ:Joins L.length n g M):Rot n q (C0N g ar) M:=by
 refine ⟨hq,fun v x hv hx=> ?_,fun v hv hn=> ?_,fun v w hv hw hn=>B4z hA hJ hv hw hn⟩
 ·obtain ⟨y,hy,rfl⟩:=Xq.1 hx;exact hgl _ (B7B ((hA.mem v y hv).1 hy).1)
 ·obtain ⟨u,w,hu,hw,h1,h2,h3⟩:=hM.con (fun x=>decide (x=v)) ⟨v,hv,by simp⟩ ⟨q,hq,by simpa using Ne.symm hn⟩;have h1:=of_decide_eq_true h1;have h2:=of_decide_eq_false h2;subst h1;have:=B4z hA hJ hu hw (Ne.symm h2);refine ZV fun hp=> ?_;have hl:C0N g ar u=[]:=ZW.1 (by omega);rw [hl] at this;simp at this; omega
theorem C4i (v:Nat):(C0N g ar v).length=(ar v).length:=by unfold C0N; rw [XW]
theorem B5P {T:Nat->List Nat} (hR:Rot n q T M) (hM:Mult n M): ∃R,C3S n q T R:=by
 obtain ⟨Lo,l1,l2,l3,l4,l5⟩:=B5x hM hR.hq n (by have:=hR.hq; omega) (QQ _);have hex: ∀v,∃r,∀i,1≤i->Lo[i]? =some v->tgt T v r∈Lo.take i:=fun v=>by
  by_cases h: ∃i,1≤i∧Lo[i]? =some v
  ·obtain ⟨i,hi,hv⟩:=h;obtain ⟨u,hu,hMu⟩:=l5 i v hi hv;have hvn:=l3 v (Qy hv);have hun:=l3 u (Vv hu);have hne:v≠u:=by rintro rfl; rw [hM.dia] at hMu; omega
   have hc:1≤((T v).count u:Int):=by rw [hR.cnt v u hvn hun hne]; exact hMu
   have hm:u∈T v:=List.count_pos_iff.1 (by omega);obtain ⟨r,hr⟩:=ZZ.1 hm;have hrl:=(Qx.1 hr).1;refine ⟨r,fun j hj hvj=> ?_⟩;have hij:j=i:=by
    have p1:=Qx.1 hv;have p2:=Qx.1 hvj;obtain ⟨a1,a2⟩:=p1;obtain ⟨b1,b2⟩:=p2;rcases Qw3 j i with k | k | k
    ·exact absurd (b2.trans a2.symm) ((YX.1 l2) j i b1 a1 k)
    ·exact k
    ·exact absurd (a2.trans b2.symm) ((YX.1 l2) i j a1 b1 k)
   subst hij;unfold tgt;rw [Vz hrl,Qz,hr]; exact hu
  ·exact ⟨0,fun i hi hv=>absurd ⟨i,hi,hv⟩ h⟩
 obtain ⟨R,hRR⟩:=Classical.axiomOfChoice hex;refine ⟨R,fun S hS ⟨v,hv,hSv⟩=> ?_⟩;have hall: ∀v,v<n->v∈Lo:=fun v hv=>by
  refine ZV fun hn=> ?_;have:=A8o (n:=n) (seen:=Lo++[v]) (JZ.2 ⟨l2,by simp,fun a ha b hb=>by simp at hb; subst hb; rintro rfl; exact hn ha⟩) fun u hu=>by
   rcases XZ.1 hu with hu | hu
   ·exact l3 u hu
   ·simp at hu; omega
  simp at this; omega
 obtain ⟨k,hk⟩:=ZZ.1 (hall v hv);obtain ⟨i,_,⟨w,hw,hSw⟩,hmin⟩:=B80 (P:=fun i=> ∃w,Lo[i]? =some w∧S w=true) k ⟨v,hk,hSv⟩;have hi1:1≤i:=by
  refine ZV fun h=> ?_;have:i=0:=by omega
  subst this;rw [l4] at hw; injection hw with hw; rw [<-hw,hS] at hSw; cases hSw
 refine ⟨w,l3 w (Qy hw),hSw,?_⟩;have hm:=hRR w i hi1 hw;obtain ⟨j,hj⟩:=ZZ.1 hm;rw [List.getElem?_take] at hj;split at hj
 ·rename_i hji;cases hc:S (tgt T w (R w)) with
  | false=>rfl
  | true=>exact absurd ⟨_,hj,hc⟩ (hmin j hji)
 ·cases hj
def A8N (t:List Int) (e:Nat):Bool:=decide ((e:Int)∈t)
end
set_option maxHeartbeats 2000000
def C5g (t:Nat->Bool) (tn:Nat->Nat) (i:Nat):Bool:=(!t (tn i / 2))&&decide (oppH (tn i)∉(List.range i).map tn)
def B93 (t:Nat->Bool) (g tn:Nat->Nat) (k v:Nat):Int:=sumR (fun i=>if C5g t tn i=true∧g (tn i)=v then 1 else 0) k
section
variable {E:Nat} {f g p:Nat->Nat} {t:Nat->Bool} {h0:Nat}
end
set_option maxHeartbeats 2000000
section
variable {E n:Nat} {g:Nat->Nat} {t:Nat->Bool}
def C2H (n:Nat) (A:Nat->Bool):Int:=sumR (fun v=>if A v=true then 1 else 0) n
def inE (E:Nat) (g:Nat->Nat) (A:Nat->Bool):Int:=sumR (fun e=>if A (g (2*e))=true∧A (g (2*e+1))=true then 1 else 0) E
def chA (n:Nat) (D:Nat->Int) (A:Nat->Bool):Int:=sumR (fun v=>if A v=true then D v else 0) n
end
end Go.Proofs.YtdbdfkohpjefjaaGreat
