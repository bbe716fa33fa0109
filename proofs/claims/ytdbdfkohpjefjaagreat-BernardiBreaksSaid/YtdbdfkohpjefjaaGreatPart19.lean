/- A part of the proof. -/
import Derived.Test.YtdbdfkohpjefjaaGreatPart16
set_option linter.all false
set_option maxHeartbeats 4000000
set_option maxRecDepth 100000
namespace Go.Proofs.YtdbdfkohpjefjaaGreat
open Go.Sp
def mulE:List E->Nat->Nat->Int
 | [],_,_=>0
 | e::es,u,v=>(if e.a≠e.b∧((e.a=u∧e.b=v)∨(e.b=u∧e.a=v)) then e.m else 0)+mulE es u v
structure EsOk (n:Nat) (es:List E):Prop where
 rng: ∀e,e∈es->(0≤e.a∧e.a<n)∧(0≤e.b∧e.b<n)∧0≤e.m∧e.m≤50
def EsOk.tail {n:Nat} {e:E} {es:List E} (h:EsOk n (e::es)):EsOk n es:=⟨fun x hx=>h.rng x (by simp [hx])⟩
def B6g: ∀(es:List E) (u v:Nat),mulE es u v=mulE es v u
 | [],_,_=>rfl
 | e::es,u,v=>by
  unfold mulE;rw [B6g es u v];congr 1;by_cases h:e.a≠e.b∧((e.a=u∧e.b=v)∨(e.b=u∧e.a=v))
  ·rw [if_pos h,if_pos ⟨h.1,h.2.elim (fun q=> .inr ⟨q.2,q.1⟩) (fun q=> .inl ⟨q.2,q.1⟩)⟩]
  ·rw [if_neg h,if_neg (fun q=>h ⟨q.1,q.2.elim (fun q=> .inr ⟨q.2,q.1⟩) (fun q=> .inl ⟨q.2,q.1⟩)⟩)]
def B6h: ∀(es:List E) (v:Nat),mulE es v v=0
 | [],_=>rfl
 | e::es,v=>by
  unfold mulE;rw [B6h es v,if_neg (fun q=>by rcases q with ⟨q1,q2 | q2⟩<;>exact q1 (by omega))]; rfl
def B1N {n:Nat}: ∀{es:List E},EsOk n es-> ∀(u v:Nat),0≤mulE es u v
 | [],_,_,_=>Jj _
 | e::es,h,u,v=>by
  have:=B1N h.tail u v;have:=h.rng e (by simp);unfold mulE;split<;>omega
def C0v {n:Nat}: ∀{es:List E},EsOk n es-> ∀{e:E},e∈es->e.a≠e.b-> ∀{u v:Nat},(e.a=u∧e.b=v)∨(e.b=u∧e.a=v)->e.m≤mulE es u v
 | [],_,e,he,_,_,_,_=>by cases he
 | x::es,h,e,he,hne,u,v,huv=>by
  have h1:=B1N h.tail u v;have h2:=h.rng x (by simp);unfold mulE;rcases QV.1 he with rfl | he
  ·rw [if_pos ⟨hne,huv⟩]; omega
  ·have:=C0v h.tail he hne huv;split<;>omega
def C5t {g:G} {n:Nat} (hc:checkG g=0) (hn:g.n=n) (hcon:connB g=true):EsOk n g.es∧Mult n (mulE g.es):=by
 have h:=A0h.1 hc;have hE:EsOk n g.es:=⟨fun e he=>by have:=h.2.1 e he; unfold okE at this; omega⟩;refine ⟨hE,B6g _,B1N hE,B6h _,fun S hS hS'=> ?_⟩;obtain ⟨a,ha,hSa⟩:=hS;obtain ⟨b,hb,hSb⟩:=hS';rw [A2W hc hn,decide_eq_true_eq] at hcon;have hab:=A6G (A58 n _) hcon ha hb;refine QJ fun hx=> ?_;have key: ∀{x y:Nat},Conn (endsL g.es) x y->S x=true->S y=true:=fun {x y} hxy=>by
  induction hxy with
  | refl=>exact id
  | step hp hs ih=>
   rename_i y z;intro hx1;have hy:=ih hx1;refine QJ fun hz=>hx ?_;rw [Qx3] at hz;obtain ⟨e,he,hye⟩: ∃e,e∈g.es∧((e.a=y∧e.b=z)∨(e.b=y∧e.a=z)):=by
    rcases hs with hs | hs
    ·obtain ⟨e,he,q⟩:=A3W hs;have q1:=congrArg Prod.fst q;have q2:=congrArg Prod.snd q;exact ⟨e,he,.inl ⟨by simpa using q1.symm,by simpa using q2.symm⟩⟩
    ·obtain ⟨e,he,q⟩:=A3W hs;have q1:=congrArg Prod.fst q;have q2:=congrArg Prod.snd q;exact ⟨e,he,.inr ⟨by simpa using q2.symm,by simpa using q1.symm⟩⟩
   have hr:=h.2.1 e he;unfold okE at hr;have hne:e.a≠e.b:=by
    intro q;have:y=z:=by rcases hye with q2 | q2<;>omega
    rw [this,hz] at hy; cases hy
   refine ⟨y,z,by rcases hye with q | q<;>omega,by rcases hye with q | q<;>omega,hy,hz,?_⟩;have:=C0v hE he hne hye;omega
 rw [key hab hSa] at hSb; cases hSb
def isJ (p:Int×Int) (u v:Nat):Prop:=p.1≠p.2∧((p.1=u∧p.2=v)∨(p.2=u∧p.1=v))
instance (p:Int×Int) (u v:Nat):Decidable (isJ p u v):=by unfold isJ; infer_instance
def cJ:List (Int×Int)->Nat->Nat->Int
 | [],_,_=>0
 | p::l,u,v=>(if isJ p u v then 1 else 0)+cJ l u v
def C4e (l m:List (Int×Int)) (u v:Nat):cJ (l++m) u v=cJ l u v+cJ m u v:=by
 induction l with
 | nil=>simp [cJ]
 | cons p l ih=>simp only [List.cons_append,cJ,ih]; omega
def C6O (p:Int×Int) (k:Nat) (u v:Nat):cJ (List.replicate k p) u v=if isJ p u v then (k:Int) else 0:=by
 induction k with
 | zero=>simp [cJ]
 | succ k ih=>rw [List.replicate_succ]; simp only [cJ,ih]; split<;>omega
def C5u {es:List E} (h: ∀e,e∈es->0≤e.m) (u v:Nat):cJ (endsL es) u v=mulE es u v:=by
 induction es with
 | nil=>rfl
 | cons e es ih=>
  have h1:endsL (e::es)=List.replicate e.m.toNat (e.a,e.b)++endsL es:=rfl;have h2:=h e (by simp);rw [h1,C4e,C6O,ih fun x hx=>h x (by simp [hx])];have h3:mulE (e::es) u v=(if e.a≠e.b∧((e.a=u∧e.b=v)∨(e.b=u∧e.a=v)) then e.m else 0)+mulE es u v:=rfl;rw [h3]; unfold isJ;rw [Int.toNat_of_nonneg h2]
def B1O {P Q:Prop} [Decidable P] [Decidable Q] (h:P↔Q) {α:Type} {x y:α}:(if P then x else y)=if Q then x else y:=by
 by_cases hp:P
 ·rw [if_pos hp,if_pos (h.1 hp)]
 ·rw [if_neg hp,if_neg fun q=>hp (h.2 q)]
section
variable {E n:Nat} {s g:Nat->Nat} {t t':Nat->Bool} {p p':Nat->Nat} {h0:Nat}
def A9B {P:Nat->Prop}: ∀k,P k-> ∃i,i≤k∧P i∧ ∀j,j<i-> ¬P j:=by
 intro k
 induction k using Nat.strongRecOn with
 | ind k ih=>
  intro hk;by_cases h: ∃j,j<k∧P j
  ·obtain ⟨j,hj,hp⟩:=h;obtain ⟨i,h1,h2,h3⟩:=ih j hj hp;exact ⟨i,by omega,h2,h3⟩
  ·exact ⟨k,Qk _,hk,fun j hj hp=>h ⟨j,hj,hp⟩⟩
def B6i (hk: ∀x,x<2*E->g (s x)=g x) (hg: ∀x,x<2*E->g x<n) (hT:STree E n g t) (hT':STree E n g t') (P:TourP (2*E) (A09 s t) h0 p) (P':TourP (2*E) (A09 s t') h0 p')
  (he: ∀A,A6F E g p t A=A6F E g p' t' A): ∀e,e<E->t e=t' e:=by
 intro e hel;refine QJ fun hn=> ?_;have hx:2*e<2*E:=by omega
 obtain ⟨i,i1,i2,i3⟩:=A9B (P:=fun i=>t (it (A09 s t) i h0 / 2)≠t' (it (A09 s t) i h0 / 2)) (p (2*e)) (by rw [P.at_ _ hx,show 2*e / 2=e by omega]; exact hn);have hil:i<2*E:=by have:=P.lt _ hx; omega
 have i4: ∀j,j<i->t (it (A09 s t) j h0 / 2)=t' (it (A09 s t) j h0 / 2):=fun j hj=>QJ fun h=>i3 j hj h;have hs: ∀j,j≤i->it (A09 s t) j h0=it (A09 s t') j h0:=by
  intro j
  induction j with
  | zero=>intro _; rfl
  | succ j ih=>
   intro hj;have e1:=i4 j (by omega);show A09 s t (it (A09 s t) j h0)=A09 s t' (it (A09 s t') j h0);rw [<-ih (by omega)];generalize it (A09 s t) j h0=x at e1 ⊢;unfold A09; rw [e1]
 cases h1:t (it (A09 s t) i h0 / 2) with
 | true=>
  have h2:t' (it (A09 s t) i h0 / 2)=false:=by
   cases h:t' (it (A09 s t) i h0 / 2) with
   | true=>exact absurd (h1.trans h.symm) i2
   | false=>rfl
  obtain ⟨A,hA⟩:=C0b hk hg hT hT' P P' hil hs i4 h1 h2;have:=he A; omega
 | false=>
  have h2:t' (it (A09 s t) i h0 / 2)=true:=by
   cases h:t' (it (A09 s t) i h0 / 2) with
   | false=>exact absurd (h1.trans h.symm) i2
   | true=>rfl
  rw [hs i (Qk _)] at h1 h2;obtain ⟨A,hA⟩:=C0b hk hg hT' hT P' P hil (fun j hj=>(hs j hj).symm) (fun j hj=>by rw [<-hs j (by omega)]; exact (i4 j hj).symm) h2 h1;have:=he A; omega
structure BrkD (E n:Nat) (g:Nat->Nat) (D:Nat->Int):Prop where
 deg:sumR D n=E-n+1
 low: ∀A:Nat->Bool,(∃v,v<n∧A v=true)->sumR (fun e=>if A (g (2*e))=true∧A (g (2*e+1))=true then 1 else 0) E-sumR (fun v=>if A v=true then 1 else 0) n+1≤sumR (fun v=>if A v=true then D v else 0) n
def A5f (E:Nat) (g p:Nat->Nat) (t:Nat->Bool) (v:Nat):Int:=sumR (fun e=>if t e=false∧g (A93 p e)=v then 1 else 0) E
def C6P {e:Nat} (he:e<E):A93 p e<2*E:=by unfold A93; split<;>omega
def A8u (hg: ∀x,x<2*E->g x<n) (A:Nat->Bool):sumR (fun v=>if A v=true then A5f E g p t v else 0) n=A6F E g p t A:=by
 unfold A5f A6F;have e1:sumR (fun v=>if A v=true then sumR (fun e=>if t e=false∧g (A93 p e)=v then 1 else 0) E else 0) n=sumR (fun v=>sumR (fun e=>if A v=true then (if t e=false∧g (A93 p e)=v then 1 else 0) else 0) E) n:=A0g fun v _=>by
  split
  ·rfl
  ·rw [A0H fun _ _=>rfl]
 rw [e1,A3m];refine A0g fun e he=> ?_;rw [A0g (g:=fun v=>if v=g (A93 p e) then (if t e=false∧A (g (A93 p e))=true then 1 else 0) else 0) fun v _=> ?_,A0E _ _ (hg _ (C6P he))];by_cases h:v=g (A93 p e)
 ·subst h; rw [if_pos rfl];cases t e<;>cases A (g (A93 p e))<;>simp
 ·rw [if_neg h]; split
  ·exact if_neg fun q=>h q.2.symm
  ·rfl
def C3k:A6F E g p t (fun _=>true)=E-sumR (fun e=>if t e=true then 1 else 0) E:=by
 have:A6F E g p t (fun _=>true)+sumR (fun e=>if t e=true then 1 else 0) E=E:=by
  unfold A6F;rw [<-A02,A0g (g:=fun _=>1) fun e _=>by cases t e<;>rfl,A2b]; omega
 omega
def A6I (hg: ∀x,x<2*E->g x<n) (hT:STree E n g t):BrkD E n g (A5f E g p t):=by
 refine ⟨?_,fun A hA=> ?_⟩
 ·have:=A8u (p:=p) (t:=t) hg fun _=>true;rw [C3k,hT.tot] at this;have e:sumR (fun v=>if (fun _=>true) v=true then A5f E g p t v else 0) n=sumR (A5f E g p t) n:=A0g fun v _=>if_pos rfl;rw [e] at this; omega
 ·rw [A8u hg];have h1:=hT.few A hA;have h2:sumR (fun e=>if A (g (2*e))=true∧A (g (2*e+1))=true then 1 else 0) E-sumR (fun e=>if t e=true∧A (g (2*e))=true∧A (g (2*e+1))=true then 1 else 0) E≤A6F E g p t A:=by
   unfold A6F;rw [<-A1M];refine A3J fun e _=> ?_;have F:A (g (A93 p e))=if p (2*e)<p (2*e+1) then A (g (2*e)) else A (g (2*e+1)):=by unfold A93; split<;>rfl
   rw [F];cases t e<;>cases A (g (2*e))<;>cases A (g (2*e+1))<;>simp<;>split<;>omega
  omega
variable {M:Nat->Nat->Int}
def Joins (E n:Nat) (g:Nat->Nat) (M:Nat->Nat->Int):Prop:= ∀u v,u<n->v<n->u≠v->M u v=sumR (fun f=>(if g (2*f)=u∧g (2*f+1)=v then 1 else 0)+if g (2*f)=v∧g (2*f+1)=u then 1 else 0) E
def B3w {a b:Nat} (ha:a<n) (hb:b<n) (F:Nat->Nat->Int):sumR (fun v=>sumR (fun u=>if a=v∧b=u then F v u else 0) n) n=F a b:=by
 rw [A0g (g:=fun v=>if v=a then F a b else 0) fun v hv=> ?_,A0E _ _ ha];by_cases h:v=a
 ·subst h;rw [if_pos rfl,A0g (g:=fun u=>if u=b then F v b else 0) fun u hu=> ?_,A0E _ _ hb];by_cases h:u=b
  ·subst h; rw [if_pos rfl,if_pos ⟨rfl,rfl⟩]
  ·rw [if_neg h,if_neg fun q=>h q.2.symm]
 ·rw [if_neg h]; exact A0H fun u _=>if_neg fun q=>h q.1.symm
def C0w (hJ:Joins E n g M) (hg: ∀x,x<2*E->g x<n) (S:Nat->Bool):
  sumR (fun v=>sumR (fun u=>if S v=true∧S u=false then M v u else 0) n) n=sumR (fun f=>if S (g (2*f))=S (g (2*f+1)) then 0 else 1) E:=by
 have e1:sumR (fun v=>sumR (fun u=>if S v=true∧S u=false then M v u else 0) n) n=sumR (fun v=>sumR (fun u=>sumR (fun f=>(if g (2*f)=v∧g (2*f+1)=u then (if S v=true∧S u=false then 1 else 0) else 0)+if g (2*f+1)=v∧g (2*f)=u then (if S v=true∧S u=false then 1 else 0) else 0) E) n) n:=A0g fun v hv=>A0g fun u hu=>by
  by_cases h:S v=true∧S u=false
  ·have hne:v≠u:=by rintro rfl; rw [h.1] at h; cases h.2
   rw [if_pos h,hJ v u hv hu hne];refine A0g fun f _=> ?_;rw [if_pos h];have:(g (2*f)=u∧g (2*f+1)=v)↔(g (2*f+1)=v∧g (2*f)=u):=and_comm;rw [B1O this]
  ·rw [if_neg h];exact (A0H fun f _=>by rw [if_neg h]; simp).symm
 rw [e1];have e2: ∀v,sumR (fun u=>sumR (fun f=>(if g (2*f)=v∧g (2*f+1)=u then (if S v=true∧S u=false then (1:Int) else 0) else 0)+if g (2*f+1)=v∧g (2*f)=u then (if S v=true∧S u=false then 1 else 0) else 0) E) n=sumR (fun f=>sumR (fun u=>(if g (2*f)=v∧g (2*f+1)=u then (if S v=true∧S u=false then 1 else 0) else 0)+if g (2*f+1)=v∧g (2*f)=u then (if S v=true∧S u=false then 1 else 0) else 0) n) E:=fun v=>A3m _ _ _;rw [A0g fun v _=>e2 v,A3m];refine A0g fun f hf=> ?_;have ha:=hg (2*f) (by omega);have hb:=hg (2*f+1) (by omega);have e3:sumR (fun v=>sumR (fun u=>(if g (2*f)=v∧g (2*f+1)=u then (if S v=true∧S u=false then (1:Int) else 0) else 0)+if g (2*f+1)=v∧g (2*f)=u then (if S v=true∧S u=false then 1 else 0) else 0) n) n=sumR (fun v=>sumR (fun u=>(if g (2*f)=v∧g (2*f+1)=u then (if S v=true∧S u=false then (1:Int) else 0) else 0)) n+sumR (fun u=>if g (2*f+1)=v∧g (2*f)=u then (if S v=true∧S u=false then (1:Int) else 0) else 0) n) n:=A0g fun v _=>A02 _ _ _;rw [e3,A02,B3w ha hb (fun v u=>if S v=true∧S u=false then 1 else 0),B3w hb ha (fun v u=>if S v=true∧S u=false then 1 else 0)];cases S (g (2*f))<;>cases S (g (2*f+1))<;>rfl
def C4f (hM:Mult n M) (hJ:Joins E n g M) (hg: ∀x,x<2*E->g x<n) (h0:0<n) {D D':Nat->Int} (hD:BrkD E n g D) (hD':BrkD E n g D') (he:B1F n M D D'): ∀v,v<n->D v=D' v:=by
 obtain ⟨f,hf⟩:=he;obtain ⟨m,hm,hmax⟩:=A70 f h0;generalize hS:(fun v=>decide (f v=f m))=S;have hSi: ∀v,S v=true↔f v=f m:=fun v=>by rw [<-hS]; simp
 by_cases hall: ∀v,v<n->f v=f m
 ·intro v hv;rw [hf v hv];have:lap n M f v=0:=by unfold lap; exact A0H fun u hu=>by rw [hall v hv,hall u hu,Int.sub_self,Qv2]
  omega
 ·exfalso;obtain ⟨w,hw,hwn⟩: ∃w,w<n∧f w≠f m:=QJ fun hx=>hall fun v hv=>QJ fun hp=>hx ⟨v,hv,hp⟩;have l1:=hD'.low S ⟨m,hm,(hSi m).2 rfl⟩;have l2:=hD.low (fun v=> !S v) ⟨w,hw,by have:=mt (hSi w).1 hwn; simpa using this⟩;have c1:sumR (fun v=>sumR (fun u=>if S v=true∧S u=false then M v u else 0) n) n≤sumR (fun v=>if S v=true then lap n M f v else 0) n:=A3J fun v hv=>by
   by_cases h:S v=true
   ·rw [if_pos h]; unfold lap;refine A3J fun u hu=> ?_;have hp:=hM.pos v u;have hfv:=(hSi v).1 h;have hfu:=hmax u hu;by_cases h2:S u=false
    ·rw [if_pos ⟨h,h2⟩];have hne:f u≠f m:=fun e=>by rw [(hSi u).2 e] at h2; cases h2
     have:0≤M v u*(f v-f u-1):=Qj7 hp (by omega);rw [Int.mul_sub (M v u) (f v-f u) 1,Int.mul_one] at this; omega
    ·rw [if_neg fun q=>h2 q.2]; exact Qj7 hp (by omega)
   ·rw [if_neg h,A0H fun u _=>if_neg fun q=>h q.1]; exact Jj _
  rw [C0w hJ hg] at c1;have c2:sumR (fun v=>if S v=true then D' v else 0) n=sumR (fun v=>if S v=true then D v else 0) n-sumR (fun v=>if S v=true then lap n M f v else 0) n:=by
   rw [<-A1M]; exact A0g fun v hv=>by
    split
    ·exact hf v hv
    ·rfl
  have c3:sumR (fun v=>if S v=true then D v else 0) n+sumR (fun v=>if (!S v)=true then D v else 0) n=sumR D n:=by
   rw [<-A02]; exact A0g fun v _=>by cases S v<;>simp
  have c4:sumR (fun v=>if S v=true then (1:Int) else 0) n+sumR (fun v=>if (!S v)=true then 1 else 0) n=n:=by
   rw [<-A02,A0g (g:=fun _=>1) fun v _=>by cases S v<;>rfl,A2b]; omega
  have c5:sumR (fun e=>if S (g (2*e))=true∧S (g (2*e+1))=true then (1:Int) else 0) E+sumR (fun e=>if (!S (g (2*e)))=true∧(!S (g (2*e+1)))=true then 1 else 0) E+sumR (fun f=>if S (g (2*f))=S (g (2*f+1)) then 0 else 1) E=E:=by
   rw [<-A02,<-A02,A0g (g:=fun _=>1) fun v _=>by cases S (g (2*v))<;>cases S (g (2*v+1))<;>rfl,A2b]; omega
  have d1:=hD.deg;omega
end
def C0x {n:Nat} {R:Nat->Nat->Prop} (h0:0<n) (h: ∀x y,x<n->y<n->R x y):ncls n R=1:=by
 rw [A2v (S:=fun x y=>(fun _:Nat=>0) x=(fun _:Nat=>0) y) fun x y hx hy=>⟨fun _=>rfl,fun _=>h x y hx hy⟩];exact A97 _ (fun x _=>by omega) fun v hv=>⟨0,h0,by omega⟩
open Classical in
def C5v {n:Nat} {R:Nat->Nat->Prop} {A:Nat->Bool} (hA: ∃v,v<n∧A v=true) (h: ∀x y,x<n->y<n->R x y->x=y∨(A x=true∧A y=true)):(n:Int)-sumR (fun v=>if A v=true then 1 else 0) n+1≤ncls n R:=by
 obtain ⟨v0,hv0,hA0⟩:=hA;obtain ⟨m,hm0,⟨hm,hAm⟩,hmin⟩:=A9B (P:=fun v=>v<n∧A v=true) v0 ⟨hv0,hA0⟩;have hsub:=YZ (l₁:=m::(List.range n).filter fun v=> !A v) (l₂:=(List.range n).filter fun h=>decide (∀y,y<n->R h y->h≤y)) (Qq8.2 ⟨fun hx=>by simp [hAm] at hx,List.nodup_range.filter _⟩) fun x hx=>by
  rcases QV.1 hx with rfl | hx
  ·refine ZV.2 ⟨Xk.2 hm,decide_eq_true fun y hy hR=> ?_⟩;rcases h _ _ hm hy hR with e | ⟨_,e⟩
   ·omega
   ·exact QJ fun hlt=>hmin y (by omega) ⟨hy,e⟩
  ·obtain ⟨q1,q2⟩:=ZV.1 hx;refine ZV.2 ⟨q1,decide_eq_true fun y hy hR=> ?_⟩;rcases h _ _ (Xk.1 q1) hy hR with e | ⟨e,_⟩
   ·omega
   ·rw [e] at q2; cases q2
 have hc: ∀k,(((List.range k).filter fun v=> !A v).length:Int)=k-sumR (fun v=>if A v=true then 1 else 0) k:=fun k=>by
  induction k with
  | zero=>rfl
  | succ k ih=>
   rw [WQ,JV,Xv,Int.natCast_add,ih,sumR];by_cases h:A k=true
   ·rw [if_pos h,Qz1 (by simp [h]),List.filter_nil,List.length_nil]; omega
   ·rw [if_neg h,Qz0 (by simpa using h),List.filter_nil,List.length_singleton]; omega
 rw [List.length_cons] at hsub;have:=hc n;unfold ncls;omega
def C3l {L:List (Int×Int)} {t:List Int} (p:Int->Bool):acyc (pkL L t)->acyc (pkL L (t.filter p)):=by
 refine A3B (P:=fun t=>acyc (pkL L t)->acyc (pkL L (t.filter p))) ?_ ?_ t
 ·exact fun h=>h
 ·intro t x ih h;have e0:pkL L (t++[x])=pkL L t++[L.getD x.toNat (0,0)]:=by simp [pkL]
  rw [e0,A2D] at h;rw [JV];by_cases e:p x=true
  ·rw [Qz0 e,List.filter_nil];have e1:pkL L (t.filter p++[x])=pkL L (t.filter p)++[L.getD x.toNat (0,0)]:=by simp [pkL]
   rw [e1,A2D];refine ⟨ih h.1,fun hc=>h.2 (hc.mono fun q hq=> ?_)⟩;obtain ⟨y,hy,rfl⟩:=QY.1 hq;exact QY.2 ⟨y,(ZV.1 hy).1,rfl⟩
  ·rw [Qz1 e,List.filter_nil,WX]; exact ih h.1
def B0a (L:List (Int×Int)) (g:Nat->Nat):Prop:= ∀k,k<L.length->L[k]? =some (((g (2*k):Nat):Int),((g (2*k+1):Nat):Int))
section
variable {n:Nat} {L:List (Int×Int)} {g:Nat->Nat} {t:List Int}
def C0y (hg:B0a L g) {x:Int} (h0:0≤x) (hx:x<L.length):L.getD x.toNat (0,0)=(((g (2*x.toNat):Nat):Int),((g (2*x.toNat+1):Nat):Int)):=by
 rw [Qz,hg _ (by omega)]; rfl
def A79 (hg:B0a L g):acyc (pkL L t)->(∀x,x∈t->0≤x∧x<L.length)->t.Nodup:=by
 refine A3B (P:=fun t=>acyc (pkL L t)->(∀x,x∈t->0≤x∧x<L.length)->t.Nodup) ?_ ?_ t
 ·intro _ _; exact List.nodup_nil
 ·intro t x ih h ht;have e0:pkL L (t++[x])=pkL L t++[L.getD x.toNat (0,0)]:=by simp [pkL]
  rw [e0,A2D] at h
  refine YW.2 ⟨ih h.1 fun y hy=>ht y (by simp [hy]),by simp,fun a ha b hb=>by
   simp at hb; subst hb; rintro rfl;have hx:=ht a (by simp);have:=C0y hg hx.1 hx.2;refine h.2 (.one (.inl ?_));rw [this]
   exact QY.2 ⟨a,ha,by rw [this]; rfl⟩⟩
open Classical in
def B6j (hnd:t.Nodup) {E:Nat} (ht: ∀x,x∈t->0≤x∧x<E) (p:Nat->Bool):sumR (fun e=>if decide ((e:Int)∈t)=true∧p e=true then 1 else 0) E=((t.filter fun x=>p x.toNat).length:Int):=by
 revert hnd ht;refine A3B (P:=fun t:List Int=>t.Nodup->(∀x,x∈t->0≤x∧x<E)->sumR (fun e=>if decide ((e:Int)∈t)=true∧p e=true then 1 else 0) E=((t.filter fun x=>p x.toNat).length:Int)) ?_ ?_ t
 ·intro _ _; exact A0H fun e _=>by simp
 ·intro t x ih hnd ht;have hx:=ht x (by simp);have hxt:x∉t:=fun hx=>(YW.1 hnd).2.2 x hx x (by simp) rfl;have h1:=ih (YW.1 hnd).1 fun y hy=>ht y (by simp [hy]);have e:sumR (fun e:Nat=>if decide ((e:Int)∈t++[x])=true∧p e=true then (1:Int) else 0) E=sumR (fun e:Nat=>(if decide ((e:Int)∈t)=true∧p e=true then (1:Int) else 0)+if e=x.toNat then (if p x.toNat=true then 1 else 0) else 0) E:=A0g fun e _=>by
   by_cases q:e=x.toNat
   ·subst q;have:((x.toNat:Nat):Int)=x:=by omega
    rw [this];simp [hxt]
   ·have: ¬(e:Int)=x:=by omega
    simp [this,q]
  rw [e,A02,h1,A0E _ _ (by omega),JV,Xv];cases q:p x.toNat<;>simp [q]
open Classical in
def B1P (h0:0<n) (hg:B0a L g) (hgl: ∀x,x<2*L.length->g x<n) (ht: ∀x,x∈t->0≤x∧x<L.length) (hb:treeB n L t=true):STree L.length n g fun e=>decide ((e:Int)∈t):=by
 unfold treeB at hb;obtain ⟨hl,hc⟩:=of_decide_eq_true hb;have hL:InN n L:=fun p hp=>by
  obtain ⟨k,hk⟩:=Zj.1 hp;have hkl:=(Qx.1 hk).1;rw [hg k hkl] at hk; injection hk with hk; subst hk;have:=hgl (2*k) (by omega);have:=hgl (2*k+1) (by omega);dsimp only; omega
 have hac:acyc (pkL L t):=(A4v _ (A98 hL ht)).2.2 (by rw [hc,A2z]; omega);have hnd:=A79 hg hac ht;have hpk: ∀(p:Int->Bool) {a b:Int},(a,b)∈pkL L (t.filter p)-> ∃x,x∈t∧p x=true∧a=(g (2*x.toNat):Nat)∧b=(g (2*x.toNat+1):Nat):=fun p a b h=>by
  obtain ⟨x,hx,e⟩:=QY.1 h;obtain ⟨hx1,hx2⟩:=ZV.1 hx;rw [C0y hg (ht x hx1).1 (ht x hx1).2] at e;injection e with e1 e2;exact ⟨x,hx1,hx2,e1.symm,e2.symm⟩
 have hlen: ∀p:Int->Bool,(n:Int)=ncls n (Conn (pkL L (t.filter p)))+((t.filter p).length:Nat):=fun p=>by
  have:=(A4v (n:=n) (pkL L (t.filter p)) (A98 hL fun x hx=>ht x (ZV.1 hx).1)).2.1 (C3l p hac);rw [A2z] at this; omega
 refine ⟨?_,fun A hA=> ?_,fun e he hte=> ?_⟩
 ·have:=B6j hnd ht fun _=>true;simp only [and_true] at this;rw [this,List.filter_eq_self.2 fun _ _=>rfl]; exact hl
 ·have h1:=B6j hnd ht fun e=>A (g (2*e))&&A (g (2*e+1));simp only [XV] at h1;rw [h1];have h2:=hlen fun x=>A (g (2*x.toNat))&&A (g (2*x.toNat+1));have h3:=C5v (R:=Conn (pkL L (t.filter fun x=>A (g (2*x.toNat))&&A (g (2*x.toNat+1))))) hA fun x y _ _ hR=>by
   have key: ∀{x y:Nat},Conn (pkL L (t.filter fun x=>A (g (2*x.toNat))&&A (g (2*x.toNat+1)))) x y->x=y∨(A x=true∧A y=true):=fun {x y} hR=>by
    induction hR with
    | refl=>exact .inl rfl
    | step _ hs ih=>
     rename_i b c _;have hbc:A b=true∧A c=true:=by
      rcases hs with q | q
      ·obtain ⟨z,_,hz,e1,e2⟩:=hpk _ q;rw [XV] at hz;have e1':b=g (2*z.toNat):=by omega
       have e2':c=g (2*z.toNat+1):=by omega
       rw [e1',e2']; exact hz
      ·obtain ⟨z,_,hz,e1,e2⟩:=hpk _ q;rw [XV] at hz;have e1':c=g (2*z.toNat):=by omega
       have e2':b=g (2*z.toNat+1):=by omega
       rw [e1',e2']; exact ⟨hz.2,hz.1⟩
     rcases ih with e | e
     ·rw [e]; exact .inr hbc
     ·exact .inr ⟨e.1,hbc.2⟩
   exact key hR
  omega
 ·have hte:=of_decide_eq_true hte;have hnc: ¬Conn (pkL L (t.filter fun x=>decide (x≠(e:Int)))) (g (2*e)) (g (2*e+1)):=fun hcon=>by
   have go: ∀{b c:Nat},((b:Int),(c:Int))∈pkL L t->Conn (pkL L (t.filter fun x=>decide (x≠(e:Int)))) b c:=fun {b c} h=>by
    obtain ⟨z,hz,e1⟩:=QY.1 h;by_cases hze:z=e
    ·subst hze;rw [C0y hg (ht _ hz).1 (ht _ hz).2] at e1;injection e1 with e1 e2;have e1':g (2*e)=b:=by rw [Int.toNat_natCast] at e1; omega
     have e2':g (2*e+1)=c:=by rw [Int.toNat_natCast] at e2; omega
     rw [<-e1',<-e2']; exact hcon
    ·exact .one (.inl (QY.2 ⟨z,ZV.2 ⟨hz,decide_eq_true hze⟩,e1⟩))
   have go2: ∀{x y:Nat},Conn (pkL L t) x y->Conn (pkL L (t.filter fun x=>decide (x≠(e:Int)))) x y:=fun {x y} h=>by
    induction h with
    | refl=>exact .refl
    | step _ hs ih=>
     refine ih.trans ?_;rcases hs with q | q
     ·exact go q
     ·exact (go q).symm
   have h2:=hlen fun x=>decide (x≠(e:Int));have h3:ncls n (Conn (pkL L (t.filter fun x=>decide (x≠(e:Int)))))=ncls n (Conn (pkL L t)):=A2v fun x y _ _=>by
    constructor
    ·exact fun h=>h.mono fun q hq=>by
      obtain ⟨z,hz,rfl⟩:=QY.1 hq;exact QY.2 ⟨z,(ZV.1 hz).1,rfl⟩
    ·exact go2
   rw [hc] at h3;have h4:(t.filter fun x=>decide (x≠(e:Int))).length+1≤t.length:=by
    have hm:=YZ (l₁:=(e:Int)::t.filter fun x=>decide (x≠(e:Int))) (l₂:=t) (Qq8.2 ⟨fun hx=>by simp at hx,hnd.filter _⟩) fun x hx=>by
     rcases QV.1 hx with rfl | hx
     ·exact hte
     ·exact (ZV.1 hx).1
    simpa using hm
   omega
  refine ⟨fun v=>decide (Conn (pkL L (t.filter fun x=>decide (x≠(e:Int)))) (g (2*e)) v),decide_eq_true .refl,decide_eq_false hnc,fun f hf htf hfe=> ?_⟩;have htf:=of_decide_eq_true htf
  have hst:Conn (pkL L (t.filter fun x=>decide (x≠(e:Int)))) (g (2*f)) (g (2*f+1)):= .one (.inl (QY.2 ⟨f,ZV.2 ⟨htf,decide_eq_true (by omega)⟩,by
   have:=C0y hg (ht _ htf).1 (ht _ htf).2
   simpa using this⟩))
  rw [decide_eq_decide];exact ⟨fun h=>h.trans hst,fun h=>h.trans hst.symm⟩
end
structure Arnd (n E:Nat) (g:Nat->Nat) (ar:Nat->List Nat):Prop where
 mem: ∀v x,v<n->(x∈ar v↔x<2*E∧g x=v)
 nd: ∀v,v<n->(ar v).Nodup
def B7E (g:Nat->Nat) (ar:Nat->List Nat) (v:Nat):List Nat:=(ar v).map fun x=>g (oppH x)
def C3m (n q:Nat) (g H:Nat->Nat):Prop:= ∀S:Nat->Bool,S q=false->(∃v,v<n∧S v=true)-> ∃v,v<n∧S v=true∧S (g (oppH (H v)))=false
def A7V (ar:Nat->List Nat) (R:Nat->Nat) (v:Nat):Nat:=(ar v).getD (R v%(ar v).length) 0
def A4w (n q:Nat) (H:Nat->Nat):List Int:=((List.range n).filter fun v=>decide (v≠q)).map fun v=>((H v / 2:Nat):Int)
section
variable {n q:Nat} {L:List (Int×Int)} {g H H':Nat->Nat} {ar:Nat->List Nat} {t:List Int} {M:Nat->Nat->Int}
def A5g {x:Int}:x∈A4w n q H↔ ∃v,v<n∧v≠q∧x=((H v / 2:Nat):Int):=by
 unfold A4w;rw [QY];constructor
 ·rintro ⟨v,hv,rfl⟩;obtain ⟨h1,h2⟩:=ZV.1 hv;exact ⟨v,Xk.1 h1,of_decide_eq_true h2,rfl⟩
 ·rintro ⟨v,h1,h2,rfl⟩;exact ⟨v,ZV.2 ⟨Xk.2 h1,decide_eq_true h2⟩,rfl⟩
def B1Q (hq:q<n):((List.range n).filter fun v=>decide (v≠q)).length+1=n:=by
 have h1: ∀k,((List.range k).filter fun v=>decide (v≠q)).length+(if q<k then 1 else 0)=k:=fun k=>by
  induction k with
  | zero=>rfl
  | succ k ih=>
   rw [WQ,JV,Xv];by_cases h:k=q
   ·rw [Qz1 (by simp [h]),List.filter_nil,List.length_nil,if_pos (by omega)];rw [if_neg (by omega)] at ih; omega
   ·rw [Qz0 (by simp [h]),List.filter_nil,List.length_singleton];by_cases h2:q<k
    ·rw [if_pos h2] at ih; rw [if_pos (by omega)]; omega
    ·rw [if_neg h2] at ih; rw [if_neg (by omega)]; omega
 have:=h1 n;rw [if_pos hq] at this; exact this
def C0z (hq:q<n):((A4w n q H).length:Int)=n-1:=by
 unfold A4w; rw [XW]; have:=B1Q hq; omega
def C5w (hg:B0a L g) {x:Nat} (hx:x<2*L.length):L.getD (((x / 2:Nat):Int).toNat) (0,0)=(((g x:Nat):Int),((g (oppH x):Nat):Int))∨L.getD (((x / 2:Nat):Int).toNat) (0,0)=(((g (oppH x):Nat):Int),((g x:Nat):Int)):=by
 have h:=C0y hg (x:=((x / 2:Nat):Int)) (by omega) (by omega);rw [h,Int.toNat_natCast];rcases Vj x with e | e
 ·left;have e1:2*(x / 2)=x:=by omega
  have e2:2*(x / 2)+1=oppH x:=by unfold oppH; omega
  rw [e2,e1]
 ·right;have e1:2*(x / 2)+1=x:=by omega
  have e2:2*(x / 2)=oppH x:=by unfold oppH; omega
  rw [e1,e2]
open Classical in
def B0V (hq:q<n) (hg:B0a L g) (hH: ∀v,v<n->v≠q->H v<2*L.length∧g (H v)=v) (ha:C3m n q g H):treeB n L (A4w n q H)=true:=by
 have hst: ∀v,v<n->v≠q->Conn (pkL L (A4w n q H)) v (g (oppH (H v))):=fun v hv hn=>by
  obtain ⟨h1,h2⟩:=hH v hv hn;refine .one ?_;have hm:L.getD (((H v / 2:Nat):Int).toNat) (0,0)∈pkL L (A4w n q H):=QY.2 ⟨_,A5g.2 ⟨v,hv,hn,rfl⟩,rfl⟩;rcases C5w hg h1 with e | e
  ·rw [e,h2] at hm; exact .inl hm
  ·rw [e,h2] at hm; exact .inr hm
 have hall: ∀v,v<n->Conn (pkL L (A4w n q H)) v q:=fun v hv=>by
  refine QJ fun hc=> ?_;obtain ⟨x,hx,h1,h2⟩:=ha (fun v=>decide (¬Conn (pkL L (A4w n q H)) v q)) (decide_eq_false fun h=>h .refl) ⟨v,hv,decide_eq_true hc⟩;have h1:=of_decide_eq_true h1;have h2:Conn (pkL L (A4w n q H)) (g (oppH (H x))) q:=QJ fun h=>(of_decide_eq_false h2) h;have hxq:x≠q:=by rintro rfl; exact h1 .refl
  exact h1 ((hst x hx hxq).trans h2)
 unfold treeB;exact decide_eq_true ⟨C0z hq,C0x (by omega) fun x y hx hy=>(hall x hx).trans (hall y hy).symm⟩
def C5x (hH: ∀v,v<n->v≠q->H v<2*L.length∧g (H v)=v) (hH': ∀v,v<n->v≠q->H' v<2*L.length∧g (H' v)=v) (ha:C3m n q g H) (ha':C3m n q g H') (hsub: ∀v,v<n->v≠q-> ∃u,u<n∧u≠q∧H' v / 2=H u / 2): ∀v,v<n->v≠q->H v=H' v:=by
 intro v0 hv0 hn0;refine QJ fun hne=> ?_;have hdis: ∀u v,u<n->v<n->u≠q->v≠q->H u / 2=H v / 2->u=v:=fun u v hu hv hun hvn e=>by
  rcases A2V e with k | k
  ·rw [<-(hH u hu hun).2,k,(hH v hv hvn).2]
  ·refine QJ fun huv=> ?_;obtain ⟨x,hx,h1,h2⟩:=ha (fun w=>decide (w=u∨w=v)) (decide_eq_false (by omega)) ⟨u,hu,decide_eq_true (.inl rfl)⟩;have h2:=of_decide_eq_false h2;rcases of_decide_eq_true h1 with rfl | rfl
   ·rw [k,A91,(hH v hv hvn).2] at h2; exact h2 (.inr rfl)
   ·have:oppH (H x)=H u:=k.symm;rw [this,(hH u hu hun).2] at h2; exact h2 (.inl rfl)
 have hdis': ∀u v,u<n->v<n->u≠q->v≠q->H' u / 2=H' v / 2->u=v:=fun u v hu hv hun hvn e=>by
  rcases A2V e with k | k
  ·rw [<-(hH' u hu hun).2,k,(hH' v hv hvn).2]
  ·refine QJ fun huv=> ?_;obtain ⟨x,hx,h1,h2⟩:=ha' (fun w=>decide (w=u∨w=v)) (decide_eq_false (by omega)) ⟨u,hu,decide_eq_true (.inl rfl)⟩;have h2:=of_decide_eq_false h2;rcases of_decide_eq_true h1 with rfl | rfl
   ·rw [k,A91,(hH' v hv hvn).2] at h2; exact h2 (.inr rfl)
   ·have:oppH (H' x)=H' u:=k.symm;rw [this,(hH' u hu hun).2] at h2; exact h2 (.inl rfl)
 obtain ⟨x,hx,h1,h2⟩:=ha' (fun v=>decide (v<n∧v≠q∧H v≠H' v)) (decide_eq_false (by omega)) ⟨v0,hv0,decide_eq_true ⟨hv0,hn0,hne⟩⟩;obtain ⟨_,hxq,hxne⟩:=of_decide_eq_true h1;obtain ⟨u,hu,huq,e⟩:=hsub x hx hxq;refine of_decide_eq_false h2 ?_;have hxu:x≠u:=fun k=>by
  subst k;rcases A2V e with k | k
  ·exact hxne k.symm
  ·have a1:=(hH x hx hxq).2;have a2:=(hH' x hx hxq).2;obtain ⟨y,hy,b1,b2⟩:=ha' (fun w=>decide (w=x)) (decide_eq_false (by omega)) ⟨x,hx,decide_eq_true rfl⟩;have:=of_decide_eq_true b1;subst this;have b2:=of_decide_eq_false b2;rw [k,A91] at b2;exact b2 a1
 rcases A2V e with k | k
 ·exact absurd (by rw [<-(hH' x hx hxq).2,k,(hH u hu huq).2]) hxu
 ·have e3:g (oppH (H' x))=u:=by rw [k,A91]; exact (hH u hu huq).2
  rw [e3];refine ⟨hu,huq,fun e4=>hxu ?_⟩;exact hdis' x u hx hu hxq huq (by rw [e,e4])
def A8v (ha:Arnd n L.length g ar) (R:Nat->Nat) {v:Nat} (hv:v<n) (hp:0<(ar v).length):A7V ar R v<2*L.length∧g (A7V ar R v)=v:=by
 refine (ha.mem v _ hv).1 ?_;unfold A7V;have:=VZ (R v) hp;rw [Qz,Qq this]; exact Xw this
def B6k (R:Nat->Nat) {v:Nat} (hp:0<(ar v).length):tgt (B7E g ar) v (R v)=g (oppH (A7V ar R v)):=by
 unfold tgt B7E A7V;rw [XW];have:=VZ (R v) hp;rw [Qz,Qz,QQ,Qq this]; rfl
def A6J (hp: ∀v,v<n->v≠q->0<(ar v).length) {R:Nat->Nat}:A96 n q (B7E g ar) R↔C3m n q g (A7V ar R):=by
 constructor
 ·intro h S hS hx;obtain ⟨v,hv,h1,h2⟩:=h S hS hx;refine ⟨v,hv,h1,?_⟩;rwa [B6k R (hp v hv (by rintro rfl; rw [hS] at h1; cases h1))] at h2
 ·intro h S hS hx;obtain ⟨v,hv,h1,h2⟩:=h S hS hx;refine ⟨v,hv,h1,?_⟩;rwa [B6k R (hp v hv (by rintro rfl; rw [hS] at h1; cases h1))]
end
def C3n {P:List Int->Prop} (hf: ∃l:List (List Int),∀x,P x->x∈l) {h:List Int->List Int} (hm: ∀x,P x->P (h x)) (hi: ∀x y,P x->P y->h x=h y->x=y): ∀y,P y-> ∃x,P x∧h x=y:=by
 classical
 obtain ⟨l,hl⟩:=hf;have hnd: ∀l:List (List Int),∃m:List (List Int),m.Nodup∧ ∀x,x∈m↔x∈l∧P x:=fun l=>by
  induction l with
  | nil=>exact ⟨[],List.nodup_nil,fun x=>by simp⟩
  | cons a l ih=>
   obtain ⟨m,m1,m2⟩:=ih;by_cases ha:P a∧a∉m
   ·refine ⟨a::m,Qq8.2 ⟨ha.2,m1⟩,fun x=> ?_⟩;rw [QV,QV,m2];constructor
    ·rintro (rfl | h)
     ·exact ⟨.inl rfl,ha.1⟩
     ·exact ⟨.inr h.1,h.2⟩
    ·rintro ⟨rfl | h,hp⟩
     ·exact .inl rfl
     ·exact .inr ⟨h,hp⟩
   ·refine ⟨m,m1,fun x=> ?_⟩;rw [m2,QV];constructor
    ·exact fun h=>⟨.inr h.1,h.2⟩
    ·rintro ⟨rfl | h,hp⟩
     ·exact (m2 x).1 (QJ fun hx=>ha ⟨hp,hx⟩)
     ·exact ⟨h,hp⟩
 obtain ⟨m,m1,m2⟩:=hnd l;have m3: ∀x,x∈m↔P x:=fun x=>by rw [m2]; exact ⟨fun h=>h.2,fun h=>⟨hl x h,h⟩⟩
 intro y hy;refine QJ fun hno=> ?_
 have:=C5a (l:=m.map h++[y]) (m:=m) (YW.2 ⟨A6D m1 fun x hx z hz e=>hi x z ((m3 x).1 hx) ((m3 z).1 hz) e,by simp,fun a ha b hb=>by
  simp at hb; subst hb; rintro rfl;obtain ⟨x,hx,e⟩:=QY.1 ha
  exact hno ⟨x,(m3 x).1 hx,e⟩⟩) m1 fun x hx=>by
   rcases XZ.1 hx with hx | hx
   ·obtain ⟨z,hz,rfl⟩:=QY.1 hx;exact (m3 _).2 (hm z ((m3 z).1 hz))
   ·simp at hx; subst hx; exact (m3 _).2 hy
 simp at this;omega
def B6l (B:Nat): ∀n:Nat,∃l:List (List Int),∀x:List Int,x.length=n->(∀y,y∈x->0≤y∧y<B)->x∈l
 | 0=>⟨[[]],fun x hx _=>by have:=ZY.1 hx; subst this; simp⟩
 | n+1=>by
  obtain ⟨l,hl⟩:=B6l B n;refine ⟨(List.range B).flatMap fun k:Nat=>l.map fun r=>((k:Int)::r),fun x hx hy=> ?_⟩;cases x with
  | nil=>cases hx
  | cons a r=>
   have ha:=hy a (by simp);refine Jy.2 ⟨a.toNat,Xk.2 (by omega),QY.2 ⟨r,hl r (by simpa using hx) fun y h=>hy y (by simp [h]),?_⟩⟩;rw [show ((a.toNat:Nat):Int)=a by omega]
def C6Q {n q:Nat} {M:Nat->Nat->Int} (hM:Mult n M): ∃l:List (List Int),∀x,ssL n M q x->x∈l:=by
 obtain ⟨l,hl⟩:=B6l ((sumR (valM n M) n).toNat+1) n;refine ⟨l,fun x hx=>hl x hx.1 fun y hy=> ?_⟩;obtain ⟨v,hv⟩:=Zj.1 hy;have hvl:=(Qx.1 hv).1;have hvn:v<n:=by have:=hx.1; omega
 have e:atI x v=y:=by unfold atI; rw [Qz,hv]; rfl
 have hval: ∀v,v<n->0≤(valM n M) v:=fun v _=>A1W fun u _=>hM.pos v u;have hs:=A1i hval hvn;have h0:=hval v hvn;by_cases hq:v=q
 ·rw [<-e,hq,hx.2.1]; omega
 ·have h1:=hx.2.2.1 v hvn hq;have h2:=C6G hM hx.2.2 hvn hq;rw [<-e]; omega
end Go.Proofs.YtdbdfkohpjefjaaGreat
