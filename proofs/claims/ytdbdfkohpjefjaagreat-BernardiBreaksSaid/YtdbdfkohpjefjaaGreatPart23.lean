/- A part of the proof. -/
import Derived.Test.YtdbdfkohpjefjaaGreatPart19
import Derived.Test.YtdbdfkohpjefjaaGreatPart21
import Derived.Test.YtdbdfkohpjefjaaGreatPart20
set_option linter.all false
set_option maxHeartbeats 4000000
set_option maxRecDepth 100000
namespace Go.Proofs.YtdbdfkohpjefjaaGreat
open Go.Sp
section
variable {n q:Nat} {L:List (Int×Int)} {g s:Nat->Nat} {ar:Nat->List Nat} {M:Nat->Nat->Int} {h0:Nat}
def A6d (F:Nat->Int): ∀E:Nat,sumR F (2*E)=sumR (fun f=>F (2*f)+F (2*f+1)) E
 | 0=>rfl
 | E+1=>by
  rw [show 2*(E+1)=2*E+1+1 by omega,sumR,sumR,sumR,A6d F E]; omega
def C5C {l:List Nat} (hnd:l.Nodup) (p:Nat->Bool) {N:Nat} (hl: ∀x,x∈l->x<N):sumR (fun x=>if x∈l∧p x=true then 1 else 0) N=((l.countP p:Nat):Int):=by
 revert hnd hl;refine A3B (P:=fun l:List Nat=>l.Nodup->(∀x,x∈l->x<N)->sumR (fun x=>if x∈l∧p x=true then 1 else 0) N=((l.countP p:Nat):Int)) ?_ ?_ l
 ·intro _ _; exact A0H fun x _=>by simp
 ·intro l x ih hnd hl;have hx:x∉l:=fun hx=>(YW.1 hnd).2.2 x hx x (by simp) rfl;have h1:=ih (YW.1 hnd).1 fun y hy=>hl y (by simp [hy]);have e:sumR (fun y=>if y∈l++[x]∧p y=true then (1:Int) else 0) N=sumR (fun y=>(if y∈l∧p y=true then (1:Int) else 0)+if y=x then (if p x=true then 1 else 0) else 0) N:=A0g fun y _=>by
   by_cases q:y=x
   ·subst q; simp [hx]
   ·simp [q]
  rw [e,A02,h1,A0E _ _ (hl x (by simp)),List.countP_append];cases q:p x<;>simp [Qx2,q]
def B6o (hA:Arnd n L.length g ar) (hJ:Joins L.length n g M) {v w:Nat} (hv:v<n) (hw:w<n) (hn:v≠w):((B7E g ar v).count w:Int)=M v w:=by
 unfold B7E;rw [List.count_eq_countP,List.countP_map,hJ v w hv hw hn,<-C5C (hA.nd v hv) _ (N:=2*L.length) fun x hx=>((hA.mem v x hv).1 hx).1,A6d];refine A0g fun f hf=> ?_;have e1:oppH (2*f)=2*f+1:=by unfold oppH; omega
 have e2:oppH (2*f+1)=2*f:=by unfold oppH; omega
 have k1:(2*f∈ar v∧((fun x=>x==w)∘fun x=>g (oppH x)) (2*f)=true)↔(g (2*f)=v∧g (2*f+1)=w):=by
  rw [hA.mem v _ hv,Function.comp_apply,e1,beq_iff_eq];exact ⟨fun h=>⟨h.1.2,h.2⟩,fun h=>⟨⟨by omega,h.1⟩,h.2⟩⟩
 have k2:(2*f+1∈ar v∧((fun x=>x==w)∘fun x=>g (oppH x)) (2*f+1)=true)↔(g (2*f)=w∧g (2*f+1)=v):=by
  rw [hA.mem v _ hv,Function.comp_apply,e2,beq_iff_eq];exact ⟨fun h=>⟨h.2,h.1.2⟩,fun h=>⟨⟨by omega,h.2⟩,h.1⟩⟩
 rw [B1O k1,B1O k2]
def C4g (hM:Mult n M) (hq:q<n) (hgl: ∀x,x<2*L.length->g x<n) (hA:Arnd n L.length g ar) (hJ:Joins L.length n g M):Rot n q (B7E g ar) M:=by
 refine ⟨hq,fun v x hv hx=> ?_,fun v hv hn=> ?_,fun v w hv hw hn=>B6o hA hJ hv hw hn⟩
 ·obtain ⟨y,hy,rfl⟩:=QY.1 hx;exact hgl _ (A92 ((hA.mem v y hv).1 hy).1)
 ·obtain ⟨u,w,hu,hw,h1,h2,h3⟩:=hM.con (fun x=>decide (x=v)) ⟨v,hv,by simp⟩ ⟨q,hq,by simpa using Ne.symm hn⟩;have h1:=of_decide_eq_true h1;have h2:=of_decide_eq_false h2;subst h1;have:=B6o hA hJ hu hw (Ne.symm h2);refine QJ fun hp=> ?_;have hl:B7E g ar u=[]:=ZY.1 (by omega);rw [hl] at this;simp at this; omega
def C0F (v:Nat):(B7E g ar v).length=(ar v).length:=by unfold B7E; rw [XW]
def B0Y {T:Nat->List Nat} (hR:Rot n q T M) (hM:Mult n M): ∃R,A96 n q T R:=by
 obtain ⟨Lo,l1,l2,l3,l4,l5⟩:=A71 hM hR.hq n (by have:=hR.hq; omega) (Qk _);have hex: ∀v,∃r,∀i,1≤i->Lo[i]? =some v->tgt T v r∈Lo.take i:=fun v=>by
  by_cases h: ∃i,1≤i∧Lo[i]? =some v
  ·obtain ⟨i,hi,hv⟩:=h;obtain ⟨u,hu,hMu⟩:=l5 i v hi hv;have hvn:=l3 v (Qv hv);have hun:=l3 u (JZ hu);have hne:v≠u:=by rintro rfl; rw [hM.dia] at hMu; omega
   have hc:1≤((T v).count u:Int):=by rw [hR.cnt v u hvn hun hne]; exact hMu
   have hm:u∈T v:=List.count_pos_iff.1 (by omega);obtain ⟨r,hr⟩:=Zj.1 hm;have hrl:=(Qx.1 hr).1;refine ⟨r,fun j hj hvj=> ?_⟩;have hij:j=i:=by
    have p1:=Qx.1 hv;have p2:=Qx.1 hvj;obtain ⟨a1,a2⟩:=p1;obtain ⟨b1,b2⟩:=p2;rcases Qw3 j i with k | k | k
    ·exact absurd (b2.trans a2.symm) ((ZJ.1 l2) j i b1 a1 k)
    ·exact k
    ·exact absurd (a2.trans b2.symm) ((ZJ.1 l2) i j a1 b1 k)
   subst hij;unfold tgt;rw [Vw hrl,Qz,hr]; exact hu
  ·exact ⟨0,fun i hi hv=>absurd ⟨i,hi,hv⟩ h⟩
 obtain ⟨R,hRR⟩:=Classical.axiomOfChoice hex;refine ⟨R,fun S hS ⟨v,hv,hSv⟩=> ?_⟩;have hall: ∀v,v<n->v∈Lo:=fun v hv=>by
  refine QJ fun hn=> ?_;have:=A62 (n:=n) (seen:=Lo++[v]) (YW.2 ⟨l2,by simp,fun a ha b hb=>by simp at hb; subst hb; rintro rfl; exact hn ha⟩) fun u hu=>by
   rcases XZ.1 hu with hu | hu
   ·exact l3 u hu
   ·simp at hu; omega
  simp at this; omega
 obtain ⟨k,hk⟩:=Zj.1 (hall v hv);obtain ⟨i,_,⟨w,hw,hSw⟩,hmin⟩:=A9B (P:=fun i=> ∃w,Lo[i]? =some w∧S w=true) k ⟨v,hk,hSv⟩;have hi1:1≤i:=by
  refine QJ fun h=> ?_;have:i=0:=by omega
  subst this;rw [l4] at hw; injection hw with hw; rw [<-hw,hS] at hSw; cases hSw
 refine ⟨w,l3 w (Qv hw),hSw,?_⟩;have hm:=hRR w i hi1 hw;obtain ⟨j,hj⟩:=Zj.1 hm;rw [List.getElem?_take] at hj;split at hj
 ·rename_i hji;cases hc:S (tgt T w (R w)) with
  | false=>rfl
  | true=>exact absurd ⟨_,hj,hc⟩ (hmin j hji)
 ·cases hj
def B0Z {E:Nat} {t t':Nat->Bool} {p p':Nat->Nat} (hg: ∀x,x<2*E->g x<n) (h: ∀v,v<n->A5f E g p t v=A5f E g p' t' v) (A:Nat->Bool):A6F E g p t A=A6F E g p' t' A:=by
 rw [<-A8u hg,<-A8u hg];exact A0g fun v hv=>by rw [h v hv]
def A3u (t:List Int) (e:Nat):Bool:=decide ((e:Int)∈t)
def C3u (hM:Mult n M) (hq:q<n) (hg:B0a L g) (hgl: ∀x,x<2*L.length->g x<n) (hA:Arnd n L.length g ar) (hJ:Joins L.length n g M) (hk: ∀x,x<2*L.length->g (s x)=g x)
  (htour: ∀t,(∀x,x∈t->0≤x∧x<(L.length:Int))->treeB n L t=true-> ∃p,TourP (2*L.length) (A09 s (A3u t)) h0 p) {D:Nat->Int} (hD:sumR D n=(L.length:Int)-n+1):
  ∃t p,(∀x,x∈t->0≤x∧x<(L.length:Int))∧treeB n L t=true∧TourP (2*L.length) (A09 s (A3u t)) h0 p∧B1F n M (A5f L.length g p (A3u t)) D:=by
 have h0n:0<n:=by omega
 have hR:=C4g hM hq hgl hA hJ;obtain ⟨R0,hR0⟩:=B0Y hR hM;have hp: ∀v,v<n->v≠q->0<(ar v).length:=fun v hv hn=>by rw [<-C0F (g:=g)]; exact hR.pos v hv hn
 have hex: ∀c:List Int,∃x:List Int,ssL n M q c->ssL n M q x∧ ∃(R:Nat->Nat) (p:Nat->Nat) (Z:Nat->Int),B1L n q (B7E g ar) (atI c) R0 R∧A96 n q (B7E g ar) R∧TourP (2*L.length) (A09 s (A3u (A4w n q (A7V ar R)))) h0 p∧STree L.length n g (A3u (A4w n q (A7V ar R)))∧
   B1F n M (A5f L.length g p (A3u (A4w n q (A7V ar R)))) Z∧A1j n M q Z∧x=zeroAt n q Z∧treeB n L (A4w n q (A7V ar R))=true∧(∀y,y∈A4w n q (A7V ar R)->0≤y∧y<(L.length:Int)):=fun c=>by
  by_cases hc:ssL n M q c
  ·have hcn: ∀v,v<n->v≠q->0≤atI c v:=hc.2.2.1;obtain ⟨R,hL⟩:=B4S hR hM hcn (R:=R0);have hac:=hL.acyc hR hcn hR0;have hH: ∀v,v<n->v≠q->A7V ar R v<2*L.length∧g (A7V ar R v)=v:=fun v hv hn=>A8v hA R hv (hp v hv hn);have ht:=B0V hq hg hH ((A6J hp).1 hac);have hrange: ∀y,y∈A4w n q (A7V ar R)->0≤y∧y<(L.length:Int):=fun y hy=>by
    obtain ⟨v,hv,hn,rfl⟩:=A5g.1 hy;have:=(hH v hv hn).1;omega
   obtain ⟨p,hP⟩:=htour _ hrange ht;have hS:=B1P h0n hg hgl hrange ht;obtain ⟨Z,z1,z2⟩:=B0K hM hq (A5f L.length g p (A3u (A4w n q (A7V ar R))));refine ⟨zeroAt n q Z,fun _=>⟨⟨B0L _ _,by rw [A4a _ hq,if_pos rfl],z2.congr fun v hv hn=>by rw [A4a _ hv,if_neg hn]⟩,R,p,Z,hL,hac,hP,hS,z1,z2,rfl,ht,hrange⟩⟩
  ·exact ⟨[],fun h=>absurd h hc⟩
 obtain ⟨h,hh⟩:=Classical.axiomOfChoice hex;have hZ: ∀{Z Z':Nat->Int},sumR Z n=sumR Z' n->zeroAt n q Z=zeroAt n q Z'-> ∀v,v<n->Z v=Z' v:=fun {Z Z'} hs e=>by
  have hne: ∀v,v<n->v≠q->Z v=Z' v:=fun v hv hn=>by
   have:=congrArg (fun l=>atI l v) e;rwa [A4a _ hv,A4a _ hv,if_neg hn,if_neg hn] at this
  intro v hv;by_cases hvq:v=q
  ·subst hvq; exact B73 hv hne hs
  ·exact hne v hv hvq
 have hinj: ∀x y,ssL n M q x->ssL n M q y->h x=h y->x=y:=fun x y hx hy e=>by
  obtain ⟨_,R,p,Z,a1,a2,a3,a4,a5,a6,a7,a8,a9⟩:=hh x hx;obtain ⟨_,R',p',Z',b1,b2,b3,b4,b5,b6,b7,b8,b9⟩:=hh y hy;have hB:=A6I (p:=p) hgl a4;have hB':=A6I (p:=p') hgl b4;rw [a7,b7] at e;have hz:=hZ (by rw [a5.deg hM,b5.deg hM,hB.deg,hB'.deg]) e;have heq:=C4f hM hJ hgl h0n hB hB' ((a5.trans (.of_eq fun v hv=>(hz v hv).symm)).trans b5.symm);have htr:=B6i hk hgl a4 b4 a3 b3 (B0Z hgl heq);have hH: ∀v,v<n->v≠q->A7V ar R v<2*L.length∧g (A7V ar R v)=v:=fun v hv hn=>A8v hA R hv (hp v hv hn);have hH': ∀v,v<n->v≠q->A7V ar R' v<2*L.length∧g (A7V ar R' v)=v:=fun v hv hn=>A8v hA R' hv (hp v hv hn);have hone:=C5x hH hH' ((A6J hp).1 a2) ((A6J hp).1 b2) fun v hv hn=>by
   have hlt:A7V ar R' v / 2<L.length:=by have:=(hH' v hv hn).1; omega
   have h1:A3u (A4w n q (A7V ar R')) (A7V ar R' v / 2)=true:=decide_eq_true (A5g.2 ⟨v,hv,hn,rfl⟩);rw [<-htr _ hlt] at h1;obtain ⟨u,hu,hun,e⟩:=A5g.1 (of_decide_eq_true h1);exact ⟨u,hu,hun,by omega⟩
  have hmod: ∀v,v<n->v≠q->R v%(B7E g ar v).length=R' v%(B7E g ar v).length:=fun v hv hn=>by
   have:=hone v hv hn;unfold A7V at this;have m1:=VZ (R v) (hp v hv hn);have m2:=VZ (R' v) (hp v hv hn);rw [Qz,Qz,Qq m1,Qq m2] at this;rw [C0F];rcases Qw3 (R v%(ar v).length) (R' v%(ar v).length) with k | k | k
   ·exact absurd this (ZJ.1 (hA.nd v hv) _ _ m1 m2 k)
   ·exact k
   ·exact absurd this.symm (ZJ.1 (hA.nd v hv) _ _ m2 m1 k)
  have:=C3e hR hM hR0 hx.2.2 hy.2.2 a1 (b1.congr fun v hv hn=>(hmod v hv hn).symm);refine C5b hx.1 hy.1 fun v hv=> ?_;by_cases hvq:v=q
  ·rw [hvq,hx.2.1,hy.2.1]
  ·exact this v hv hvq
 obtain ⟨Z,z1,z2⟩:=B0K hM hq D;obtain ⟨c,hc,e⟩:=C3n (C6Q hM) (fun x hx=>(hh x hx).1) hinj (zeroAt n q Z) ⟨B0L _ _,by rw [A4a _ hq,if_pos rfl],z2.congr fun v hv hn=>by rw [A4a _ hv,if_neg hn]⟩;obtain ⟨_,R,p,Z',a1,a2,a3,a4,a5,a6,a7,a8,a9⟩:=hh c hc;have hB:=A6I (p:=p) hgl a4;rw [a7] at e;have hz:=hZ (by rw [a5.deg hM,z1.deg hM,hB.deg,hD]) e;exact ⟨_,p,a9,a8,a3,(a5.trans (.of_eq fun v hv=>(hz v hv).symm)).trans z1.symm⟩
def C3v (hM:Mult n M) (hq:q<n) (hg:B0a L g) (hgl: ∀x,x<2*L.length->g x<n) (hA:Arnd n L.length g ar) (hJ:Joins L.length n g M) (hk: ∀x,x<2*L.length->g (s x)=g x)
  (htour: ∀t,(∀x,x∈t->0≤x∧x<(L.length:Int))->treeB n L t=true-> ∃p,TourP (2*L.length) (A09 s (A3u t)) h0 p) {D:Nat->Int} (hD:BrkD L.length n g D):
  ∃t p,(∀x,x∈t->0≤x∧x<(L.length:Int))∧treeB n L t=true∧TourP (2*L.length) (A09 s (A3u t)) h0 p∧ ∀v,v<n->A5f L.length g p (A3u t) v=D v:=by
 obtain ⟨t,p,h1,h2,h3,h4⟩:=C3u hM hq hg hgl hA hJ hk htour hD.deg;exact ⟨t,p,h1,h2,h3,C4f hM hJ hgl (by omega) (A6I hgl (B1P (by omega) hg hgl h1 h2)) hD h4⟩
end
def C6j (t:Nat->Bool) (tn:Nat->Nat) (i:Nat):Bool:=(!t (tn i / 2))&&decide (oppH (tn i)∉(List.range i).map tn)
def B8n (t:Nat->Bool) (g tn:Nat->Nat) (k v:Nat):Int:=sumR (fun i=>if C6j t tn i=true∧g (tn i)=v then 1 else 0) k
section
variable {E:Nat} {f g p:Nat->Nat} {t:Nat->Bool} {h0:Nat}
def C0G {N:Nat} (P:TourP N f h0 p) (F:Nat->Int):sumR (fun i=>F (it f i h0)) N=sumR F N:=by
 have hnd:((List.range N).map fun i=>it f i h0).Nodup:=by
  refine A6D Qx1 fun i hi j hj e=> ?_;have h1:=P.back i (Xk.1 hi);have h2:=P.back j (Xk.1 hj);rw [e,h2] at h1; exact h1.symm
 have h:=B3u (n:=N) (L:=(List.range N).map fun i=>it f i h0) F hnd fun v hv=>by
  obtain ⟨i,_,rfl⟩:=QY.1 hv;exact P.pl i
 rw [XW,Vy] at h;have e1:sumR F N=sumR (fun v=>if v∈(List.range N).map (fun i=>it f i h0) then F v else 0) N:=A0g fun v hv=>by
  rw [if_pos (QY.2 ⟨p v,Xk.2 (P.lt v hv),P.at_ v hv⟩)]
 rw [e1,h];refine A0g fun i hi=> ?_;rw [Qz,QQ,Yv hi]; rfl
def B5c {N:Nat} (P:TourP N f h0 p) {i x:Nat} (hi:i<N) (hx:x<N):x∈(List.range i).map (fun j=>it f j h0)↔p x<i:=by
 rw [QY];constructor
 ·rintro ⟨j,hj,rfl⟩;have hj:=Xk.1 hj;rw [P.back j (by omega)]; exact hj
 ·intro h;exact ⟨p x,Xk.2 h,P.at_ x hx⟩
def C3w (P:TourP (2*E) f h0 p) (v:Nat):B8n t g (fun i=>it f i h0) (2*E) v=A5f E g p t v:=by
 have h:=C0G P fun x=>if t (x / 2)=false∧p x≤p (oppH x)∧g x=v then 1 else 0
 have e1:B8n t g (fun i=>it f i h0) (2*E) v=sumR (fun i=>(fun x=>if t (x / 2)=false∧p x≤p (oppH x)∧g x=v then (1:Int) else 0) (it f i h0)) (2*E):=A0g fun i hi=>by
  dsimp only;have hx:=P.pl i;have hb:=P.back i hi;have hbf:=B5c P hi (A92 hx);have hc:C6j t (fun i=>it f i h0) i=true↔t (it f i h0 / 2)=false∧p (it f i h0)≤p (oppH (it f i h0)):=by
   unfold C6j;rw [XV,decide_eq_true_eq,hbf,hb];cases t (it f i h0 / 2)<;>simp
  have:(C6j t (fun i=>it f i h0) i=true∧g (it f i h0)=v)↔(t (it f i h0 / 2)=false∧p (it f i h0)≤p (oppH (it f i h0))∧g (it f i h0)=v):=by rw [hc,and_assoc]
  exact B1O this
 rw [e1,h,A6d];unfold A5f;refine A0g fun e he=> ?_;have hne:p (2*e)≠p (2*e+1):=fun q=>by
  have a1:=P.at_ (2*e) (by omega);have a2:=P.at_ (2*e+1) (by omega);rw [q,a2] at a1; omega
 have o1:oppH (2*e)=2*e+1:=by unfold oppH; omega
 have o2:oppH (2*e+1)=2*e:=by unfold oppH; omega
 rw [o1,o2,show 2*e / 2=e by omega,show (2*e+1) / 2=e by omega];unfold A93;by_cases hl:p (2*e)<p (2*e+1)
 ·rw [if_pos hl];have: ¬p (2*e+1)≤p (2*e):=by omega
  have hl2:p (2*e)≤p (2*e+1):=by omega
  simp [this,hl2]
 ·rw [if_neg hl];have: ¬p (2*e)≤p (2*e+1):=by omega
  have hl2:p (2*e+1)≤p (2*e):=by omega
  simp [this,hl2]
end
structure FewF (g:G):Prop where
 es:g.es.length≤40
 sz:checkG g=0->g.n≤6∧(endsL g.es).length≤9
section
variable {E n:Nat} {g:Nat->Nat} {t:Nat->Bool}
def B2n (n:Nat) (A:Nat->Bool):Int:=sumR (fun v=>if A v=true then 1 else 0) n
def inE (E:Nat) (g:Nat->Nat) (A:Nat->Bool):Int:=sumR (fun e=>if A (g (2*e))=true∧A (g (2*e+1))=true then 1 else 0) E
def chA (n:Nat) (D:Nat->Int) (A:Nat->Bool):Int:=sumR (fun v=>if A v=true then D v else 0) n
def C5D (E n:Nat) (g:Nat->Nat) (A:Nat->Bool):Prop:= ∀B:Nat->Bool,(∃v,v<n∧A v=true∧B v=true)->(∃v,v<n∧A v=true∧B v=false)-> ∃f,f<E∧A (g (2*f))=true∧A (g (2*f+1))=true∧B (g (2*f))≠B (g (2*f+1))
def B7J (A B:Nat->Bool):B2n n A=B2n n (fun v=>A v&&B v)+B2n n fun v=>A v&& !B v:=by
 unfold B2n;rw [<-A02]; exact A0g fun v _=>by
  show (if A v=true then (1:Int) else 0)=(if (A v&&B v)=true then 1 else 0)+(if (A v&& !B v)=true then 1 else 0);cases A v<;>cases B v<;>simp
def C0H (D:Nat->Int) (A B:Nat->Bool):chA n D A=chA n D (fun v=>A v&&B v)+chA n D fun v=>A v&& !B v:=by
 unfold chA;rw [<-A02]; exact A0g fun v _=>by
  show (if A v=true then D v else 0)=(if (A v&&B v)=true then D v else 0)+(if (A v&& !B v)=true then D v else 0);cases A v<;>cases B v<;>simp
def B1U {A:Nat->Bool} (h: ∃v,v<n∧A v=true):1≤B2n n A:=by
 obtain ⟨v,hv,h⟩:=h;have:=A1i (f:=fun v=>if A v=true then (1:Int) else 0) (n:=n) (fun x _=>by split<;>omega) hv;rw [if_pos h] at this; exact this
def C3x {D:Nat->Int} (hdeg:sumR D n=E-n+1) (h: ∀A:Nat->Bool,(∃v,v<n∧A v=true)->C5D E n g A->inE E g A-B2n n A+1≤chA n D A):BrkD E n g D:=by
 refine ⟨hdeg,?_⟩;have key: ∀(k:Nat) (A:Nat->Bool),B2n n A≤k->(∃v,v<n∧A v=true)->inE E g A-B2n n A+1≤chA n D A:=by
  intro k
  induction k with
  | zero=>intro A hk hA; have:=B1U hA; omega
  | succ k ih=>
   intro A hk hA;by_cases hc:C5D E n g A
   ·exact h A hA hc
   ·obtain ⟨B,h1,h2,h3⟩: ∃B:Nat->Bool,(∃v,v<n∧A v=true∧B v=true)∧(∃v,v<n∧A v=true∧B v=false)∧ ∀f,f<E->A (g (2*f))=true->A (g (2*f+1))=true->B (g (2*f))=B (g (2*f+1)):=by
     refine QJ fun hno=>hc fun B q1 q2=>QJ fun q3=>hno ⟨B,q1,q2,fun f hf a1 a2=>QJ fun q4=>q3 ⟨f,hf,a1,a2,q4⟩⟩
    obtain ⟨v1,hv1,a1,b1⟩:=h1;obtain ⟨v2,hv2,a2,b2⟩:=h2;have s:=B7J (n:=n) A B;have c:=C0H (n:=n) D A B;have p1:=B1U (n:=n) (A:=fun v=>A v&&B v) ⟨v1,hv1,by rw [a1,b1]; rfl⟩;have p2:=B1U (n:=n) (A:=fun v=>A v&& !B v) ⟨v2,hv2,by rw [a2,b2]; rfl⟩;have i1:=ih (fun v=>A v&&B v) (by omega) ⟨v1,hv1,by rw [a1,b1]; rfl⟩;have i2:=ih (fun v=>A v&& !B v) (by omega) ⟨v2,hv2,by rw [a2,b2]; rfl⟩;have e:inE E g A=inE E g (fun v=>A v&&B v)+inE E g fun v=>A v&& !B v:=by
     unfold inE;rw [<-A02];refine A0g fun f hf=> ?_;have:=h3 f hf;show (if A (g (2*f))=true∧A (g (2*f+1))=true then (1:Int) else 0)=(if (A (g (2*f))&&B (g (2*f)))=true∧(A (g (2*f+1))&&B (g (2*f+1)))=true then 1 else 0)+(if (A (g (2*f))&& !B (g (2*f)))=true∧(A (g (2*f+1))&& !B (g (2*f+1)))=true then 1 else 0);by_cases hx:A (g (2*f))=true
     ·by_cases hy:A (g (2*f+1))=true
      ·rw [this hx hy,hx,hy]; cases B (g (2*f+1))<;>decide
      ·have hy:A (g (2*f+1))=false:=by simpa using hy
       rw [hx,hy]; simp
     ·have hx:A (g (2*f))=false:=by simpa using hx
      rw [hx]; simp
    omega
 intro A hA;exact key (B2n n A).toNat A (Int.self_le_toNat _) hA
def C3y (E:Nat) (g c:Nat->Nat) (t:Nat->Bool) (v:Nat):Int:=sumR (fun e=>if t e=false∧g (c e)=v then 1 else 0) E
def C0I {c:Nat->Nat} (hc: ∀e,e<E->c e<2*E) (hg: ∀x,x<2*E->g x<n) (A:Nat->Bool):sumR (fun v=>if A v=true then C3y E g c t v else 0) n=sumR (fun e=>if t e=false∧A (g (c e))=true then 1 else 0) E:=by
 unfold C3y;have e1:sumR (fun v=>if A v=true then sumR (fun e=>if t e=false∧g (c e)=v then 1 else 0) E else 0) n=sumR (fun v=>sumR (fun e=>if A v=true then (if t e=false∧g (c e)=v then 1 else 0) else 0) E) n:=A0g fun v _=>by
  split
  ·rfl
  ·rw [A0H fun _ _=>rfl]
 rw [e1,A3m];refine A0g fun e he=> ?_;rw [A0g (g:=fun v=>if v=g (c e) then (if t e=false∧A (g (c e))=true then 1 else 0) else 0) fun v _=> ?_,A0E _ _ (hg _ (hc e he))];by_cases h:v=g (c e)
 ·subst h; rw [if_pos rfl];cases t e<;>cases A (g (c e))<;>simp
 ·rw [if_neg h]; split
  ·exact if_neg fun q=>h q.2.symm
  ·rfl
def C0J {c:Nat->Nat} (hc: ∀e,e<E->c e=2*e∨c e=2*e+1) (hg: ∀x,x<2*E->g x<n) (hT:STree E n g t):BrkD E n g (C3y E g c t):=by
 have hc2: ∀e,e<E->c e<2*E:=fun e he=>by rcases hc e he with q | q<;>omega
 refine ⟨?_,fun A hA=> ?_⟩
 ·have:=C0I (t:=t) hc2 hg fun _=>true;have e:sumR (fun v=>if (fun _=>true) v=true then C3y E g c t v else 0) n=sumR (C3y E g c t) n:=A0g fun v _=>if_pos rfl;rw [e] at this;rw [this,A0g (g:=fun e=>1-if t e=true then 1 else 0) fun e _=>by cases t e<;>rfl,A1M,A2b,hT.tot]; omega
 ·rw [C0I hc2 hg];have h1:=hT.few A hA;have h2:sumR (fun e=>if A (g (2*e))=true∧A (g (2*e+1))=true then 1 else 0) E-sumR (fun e=>if t e=true∧A (g (2*e))=true∧A (g (2*e+1))=true then 1 else 0) E≤sumR (fun e=>if t e=false∧A (g (c e))=true then 1 else 0) E:=by
   rw [<-A1M];refine A3J fun e he=> ?_;rcases hc e he with q | q<;>rw [q]<;>cases t e<;>cases A (g (2*e))<;>cases A (g (2*e+1))<;>decide
  omega
end
def C5E {r:R} (hr:ROk r) {x y:Nat} (hx:x<2*(endsL r.es).length) (hy:y<2*(endsL r.es).length) (hg:gR (endsL r.es) x=gR (endsL r.es) y):A3M (sR (endsL r.es) r.ar) x y:=by
 have ax:=A1H hr.c hx;have ay:=A1H hr.c hy;have hat:atL (endsL r.es) x=atL (endsL r.es) y:=by unfold gR at hg; omega
 obtain ⟨l,q1,q2,q3,q4⟩:=hr.row hx;refine C5r q3.nd (fun z hz=> ?_) q4 (q3.sup _ (A1S.2 ⟨by omega,by omega,by rw [Int.toNat_natCast]; exact hat.symm⟩));have hz2:=A1S.1 (q3.sub _ hz);rw [Int.toNat_natCast] at hz2;have hzl:z<2*(endsL r.es).length:=by omega
 have hzn:=hr.next hzl;have:nextR (endsL r.es) r.ar z=A9l l (z:Int):=by unfold nextR; rw [hz2.2.2,q2]
 unfold sR;rw [<-this]; omega
section
variable {r:R}
def ROk.cyc_same (hr:ROk r) {x y:Nat} (hx:x<2*(endsL r.es).length) (hy:y<2*(endsL r.es).length):A3M (sR (endsL r.es) r.ar) x y↔gR (endsL r.es) x=gR (endsL r.es) y:=by
 constructor
 ·rintro ⟨i,rfl⟩;have hem:=A2C hr;clear hy
  induction i with
  | zero=>rfl
  | succ i ih=>
   show _=gR (endsL r.es) (sR (endsL r.es) r.ar (it (sR (endsL r.es) r.ar) i x));rw [hem.keep _ (hem.perm.it_lt hx i)]; exact ih
 ·exact C5E hr hx hy
def arN (r:R) (v:Nat):List Nat:=(r.ar.getD v []).map Int.toNat
def A2R (hr:ROk r):B0a (endsL r.es) (gR (endsL r.es)):=(A2C hr).ends
def ROk.rowv (hr:ROk r) {v:Nat} (hv:v<r.n.toNat): ∃l,r.ar[v]? =some l∧r.ar.getD v []=l∧LOk l (ownL (endsL r.es) (v:Int) (2*(endsL r.es).length)):=by
 have hl:=hr.len;have hlt:v<r.ar.length:=by omega
 have e:=Qq hlt;exact ⟨_,e,by rw [Qz,e]; rfl,hr.l _ _ e⟩
def B1V (hr:ROk r):Arnd r.n.toNat (endsL r.es).length (gR (endsL r.es)) (arN r):=by
 refine ⟨fun v x hv=> ?_,fun v hv=> ?_⟩
 ·obtain ⟨l,h1,h2,h3⟩:=hr.rowv hv;unfold arN;rw [h2,QY];constructor
  ·rintro ⟨y,hy,rfl⟩;have hm:=A1S.1 (h3.sub _ hy);refine ⟨by omega,?_⟩;unfold gR; rw [hm.2.2]; omega
  ·rintro ⟨hx,hg⟩;have:=A1H hr.c hx;unfold gR at hg;exact ⟨(x:Int),h3.sup _ (A1S.2 ⟨by omega,by omega,by rw [Int.toNat_natCast]; omega⟩),by omega⟩
 ·obtain ⟨l,h1,h2,h3⟩:=hr.rowv hv;unfold arN;rw [h2];refine A6D h3.nd fun x hx y hy e=> ?_;have:=(A1S.1 (h3.sub _ hx)).1;have:=(A1S.1 (h3.sub _ hy)).1;omega
def C6W (u v:Nat): ∀L:List (Int×Int),cJ L u v=sumR (fun f=>if isJ (L.getD f (0,0)) u v then 1 else 0) L.length:=by
 intro L;refine A3B (P:=fun L=>cJ L u v=sumR (fun f=>if isJ (L.getD f (0,0)) u v then 1 else 0) L.length) rfl (fun L p ih=> ?_) L;rw [C4e,Xv,List.length_singleton,sumR,ih];have e1:sumR (fun f=>if isJ ((L++[p]).getD f (0,0)) u v then (1:Int) else 0) L.length=sumR (fun f=>if isJ (L.getD f (0,0)) u v then 1 else 0) L.length:=A0g fun f hf=>by
  rw [Qz,Qw hf,<-Qz]
 have e2:(L++[p]).getD L.length (0,0)=p:=by rw [Qz,QW (Qk _),Jv]; rfl
 rw [e1,e2];simp only [cJ]; omega
def C0K (hr:ROk r):Joins (endsL r.es).length r.n.toNat (gR (endsL r.es)) (mulE r.es):=by
 intro u v hu hv huv;have hm: ∀e,e∈r.es->0≤e.m:=fun e he=>by
  have:=(A0h.1 hr.c).2.1 e he;unfold okE at this; omega
 rw [<-C5u hm,C6W];refine A0g fun f hf=> ?_;have he:=A2R hr f hf;rw [Qz,he,Option.getD_some];generalize gR (endsL r.es) (2*f)=a;generalize gR (endsL r.es) (2*f+1)=b;by_cases c1:a=u∧b=v
 ·rw [if_pos (show isJ _ u v from ⟨by dsimp only; omega,.inl (by dsimp only; omega)⟩),if_pos c1,if_neg (by omega)]; rfl
 ·by_cases c2:a=v∧b=u
  ·rw [if_pos (show isJ _ u v from ⟨by dsimp only; omega,.inr (by dsimp only; omega)⟩),if_neg c1,if_pos c2]; rfl
  ·rw [if_neg (fun h:isJ _ u v=>by unfold isJ at h; dsimp only at h; omega),if_neg c1,if_neg c2]; rfl
def C0L (s:Nat->Nat) {t:List Int} (ht: ∀x,x∈t->0≤x):C1M s (t.map Int.toNat)=A09 s (A3u t):=by
 funext x;unfold C1M A09 A3u;have:x / 2∈t.map Int.toNat↔decide (((x / 2:Nat):Int)∈t)=true:=by
  rw [decide_eq_true_eq,QY];constructor
  ·rintro ⟨y,hy,e⟩;have:=ht y hy;have:((x / 2:Nat):Int)=y:=by omega
   rw [this]; exact hy
  ·intro h;exact ⟨_,h,by omega⟩
 by_cases h:x / 2∈t.map Int.toNat
 ·rw [if_pos h,if_pos (this.1 h)]
 ·rw [if_neg h,if_neg fun q=>h (this.2 q)]
def A3s (hr:ROk r):0<r.n.toNat:=by have:=(A0h.1 hr.c).1; show 0<r.g.n.toNat; omega
def A9D (hr:ROk r):InN r.n.toNat (endsL r.es):=fun p hp=>by
 obtain ⟨k,hk⟩:=Zj.1 hp;have hkl:=(Qx.1 hk).1;have hem:=A2C hr;rw [hem.ends k hkl] at hk; injection hk with hk; subst hk;have:=hem.lt (2*k) (by omega);have:=hem.lt (2*k+1) (by omega);dsimp only; omega
def C0M (hr:ROk r) {t:List Int} (ht: ∀x,x∈t->0≤x∧x<((endsL r.es).length:Int)) (hb:treeB r.n.toNat (endsL r.es) t=true):acyc (pkL (endsL r.es) t)∧t.Nodup∧ ∀u v,u<r.n.toNat->v<r.n.toNat->Conn (pkL (endsL r.es) t) u v:=by
 unfold treeB at hb;obtain ⟨hl,hc⟩:=of_decide_eq_true hb;have hac:acyc (pkL (endsL r.es) t):=(A4v _ (A98 (A9D hr) ht)).2.2 (by rw [hc,A2z]; have:=A3s hr; omega);exact ⟨hac,A79 (A2R hr) hac ht,fun u v hu hv=>A6G (A58 _ _) hc hu hv⟩
def B1W (hr:ROk r) {t:List Int} (ht: ∀x,x∈t->0≤x∧x<((endsL r.es).length:Int)) (hb:treeB r.n.toNat (endsL r.es) t=true) {h0:Nat} (h:h0<2*(endsL r.es).length): ∃p,TourP (2*(endsL r.es).length) (A09 (sR (endsL r.es) r.ar) (A3u t)) h0 p:=by
 obtain ⟨h1,h2,h3⟩:=C0M hr ht hb;have hem:=A2C hr;have hpk:pkN (endsL r.es) (t.map Int.toNat)=pkL (endsL r.es) t:=by
  rw [C08,Qq1];congr 1;have: ∀x,x∈t->((fun e:Nat=>(e:Int))∘Int.toNat) x=x:=fun x hx=>by have:=(ht x hx).1; show ((x.toNat:Nat):Int)=x; omega
  exact (Jw this).trans (List.map_id _)
 have hnd:(t.map Int.toNat).Nodup:=A6D h2 fun x hx y hy e=>by
  have:=(ht x hx).1; have:=(ht y hy).1; omega
 obtain ⟨q1,q2⟩:=hem.set_tour (fun x y hx hy=>hr.cyc_same hx hy) hnd (fun e he=>by
  obtain ⟨x,hx,rfl⟩:=QY.1 he
  have:=ht x hx; omega) (by rw [hpk]; exact h1) _ (Qk _)
 rw [Zz] at q1 q2;rw [C0L _ fun x hx=>(ht x hx).1] at q1 q2;refine C5j q1 h fun x hx=> ?_;exact (q2 h0 x h hx).2 (by rw [hpk]; exact h3 _ _ (hem.lt _ h) (hem.lt _ hx))
def A5i (hr:ROk r) {t:List Int} (ht: ∀x,x∈t->0≤x∧x<((endsL r.es).length:Int)) (hb:treeB r.n.toNat (endsL r.es) t=true):STree (endsL r.es).length r.n.toNat (gR (endsL r.es)) (A3u t):=B1P (A3s hr) (A2R hr) (A2C hr).lt ht hb
end
def mMI (f:Int->Int) (l:List Int):List (MKey×MV):=l.map fun x=>(.int x,.c (.int .i64 (f x)))
def B6p {f:Int->Int} {l:List Int}: ∀e,e∈mMI f l->KShape.ok .int e.1=true:=fun e h=>by
 obtain ⟨x,_,rfl⟩:=QY.1 h;rfl
def C0N (f:Int->Int): ∀(l:List Int) (x:Int),x∉l->mIdx (mMI f l) (.int x)=none
 | [],x,_=>rfl
 | y::l,x,h=>by
  have h1: ¬y=x:=fun e=>h (by simp [e]);have h2:=C0N f l x (fun hm=>h (by simp [hm]));unfold mIdx at h2 ⊢;unfold mMI at h2 ⊢;simp only [XY,JJ,h2,Option.map_none];rw [if_neg];intro e;have:(MKey.int y)= .int x:=by simpa using e
  injection this with e;exact h1 e
def B1X (f:Int->Int) {x:Int}: ∀{l:List Int},x∈l-> ∀z:MV,A7g (mMI f l) (.int x) z= .c (.int .i64 (f x))
 | y::l,h,z=>by
  unfold A7g mIdx mMI;rw [XY,JJ];by_cases e:y=x
  ·subst e; simp
  ·have h2:=B1X f (List.mem_of_ne_of_mem (Ne.symm e) h) z;unfold A7g mIdx mMI at h2;have hne:(MKey.int y==MKey.int x)=false:=by simp [e]
   simp only [hne,Yk,if_false];cases hi:List.findIdx? (fun e=>e.1==MKey.int x) (List.map (fun x=>(MKey.int x,MV.c (Tree.int IntKind.i64 (f x)))) l) with
   | none=>
    rw [hi] at h2;exfalso;rw [List.findIdx?_eq_none_iff] at hi;have:=hi (MKey.int x,MV.c (Tree.int IntKind.i64 (f x))) (QY.2 ⟨x,List.mem_of_ne_of_mem (Ne.symm e) h,rfl⟩);simp at this
   | some i=>rw [hi] at h2; simpa using h2
def C0O {f:Int->Int} {l:List Int} {x:Int} (h:x∉l) {y:Int} (hy:y=f x):B3X (mMI f l) (.int x) (.c (.int .i64 y))=mMI f (l++[x]):=by
 unfold B3X; rw [C0N f l x h,hy]; simp [mMI]
section
variable {r:R}
def B6q (hr:ROk r):r.ar.flatten.Nodup∧ ∀x,x∈r.ar.flatten↔0≤x∧x<2*((endsL r.es).length:Int):=by
 have hrow: ∀(i:Nat) l,r.ar[i]? =some l-> ∀x,x∈l↔0≤x∧x<2*((endsL r.es).length:Int)∧atL (endsL r.es) x.toNat=(i:Int):=fun i l hl x=>by
  have h:=hr.l i l hl;constructor
  ·intro hx;have:=A1S.1 (h.sub _ hx);exact ⟨this.1,by omega,this.2.2⟩
  ·rintro ⟨h1,h2,h3⟩;exact h.sup _ (A1S.2 ⟨h1,by omega,h3⟩)
 constructor
 ·rw [List.Nodup,List.pairwise_flatten];refine ⟨fun l hl=> ?_,?_⟩
  ·obtain ⟨i,hi⟩:=Zj.1 hl;exact (hr.l i l hi).nd
  ·rw [ZJ];intro i j hi hj hij x hx y hy e;subst e;have h1:=(hrow i _ (Qq hi) x).1 hx;have h2:=(hrow j _ (Qq hj) x).1 hy;omega
 ·intro x;rw [List.mem_flatten];constructor
  ·rintro ⟨l,hl,hx⟩;obtain ⟨i,hi⟩:=Zj.1 hl;have:=(hrow i l hi x).1 hx;exact ⟨this.1,this.2.1⟩
  ·rintro ⟨h1,h2⟩;have ha:=A1H hr.c (show x.toNat<2*(endsL r.es).length by omega);have hlen:=hr.len;have hlt:(atL (endsL r.es) x.toNat).toNat<r.ar.length:=by omega
   have e:=Qq hlt;exact ⟨_,Qv e,(hrow _ _ e x).2 ⟨h1,h2,by omega⟩⟩
def beginR (r:R):Nat:=((r.ar.getD 0 []).getD 0 0).toNat
def tourN (r:R) (t:List Int) (k:Nat):Nat:=it (A09 (sR (endsL r.es) r.ar) (A3u t)) k (beginR r)
def B0b (r:R) (t:List Int):List (List TVal):=(List.range (2*(endsL r.es).length)).map fun k=>[A0j (tourN r t k:Nat),A0j (gR (endsL r.es) (tourN r t k):Nat)]
def A6N (r:R) (t:List Int):(B0b r t).length=2*(endsL r.es).length:=by simp [B0b]
def B3z {r:R} {t:List Int} {k:Nat} (h:k<2*(endsL r.es).length):(B0b r t)[k]? =some [A0j (tourN r t k:Nat),A0j (gR (endsL r.es) (tourN r t k):Nat)]:=by
 unfold B0b; rw [QQ,Yv h]; rfl
structure RTree (r:R) (t:List Int):Prop where
 ok:ROk r
 rng: ∀x,x∈t->0≤x∧x<((endsL r.es).length:Int)
 tree:treeB r.n.toNat (endsL r.es) t=true
def C8a (hr:ROk r): ∃l,r.ar[0]? =some l∧r.ar.getD 0 []=l∧(l=[]↔(endsL r.es).length=0)∧(l≠[]->0≤l.getD 0 0∧l.getD 0 0<2*((endsL r.es).length:Int)):=by
 obtain ⟨l,h1,h2,h3⟩:=hr.rowv (A3s hr);refine ⟨l,h1,h2,?_,fun hne=> ?_⟩
 ·constructor
  ·intro e;refine QJ fun hE=> ?_;subst e;have hA:=B1V hr;have h0:arN r 0=[]:=by unfold arN; rw [h2]; rfl
   have hno: ∀x,x<2*(endsL r.es).length->gR (endsL r.es) x≠0:=fun x hx e=>by
    have:=(hA.mem 0 x (A3s hr)).2 ⟨hx,e⟩;rw [h0] at this; cases this
   have hg:=(A2C hr).lt 0 (by omega);have hc:=hr.conn;have hc2:connB r.g=true:=hc;rw [A2W hr.c (n:=r.n.toNat) (by have:=(A0h.1 hr.c).1; show r.n=_; have:r.g.n=r.n:=rfl; omega),decide_eq_true_eq] at hc2;have:=A6G (A58 _ _) hc2 (A3s hr) hg;have key: ∀{a b:Nat},Conn (endsL r.g.es) a b->a=0->b=0:=fun {a b} h=>by
    induction h with
    | refl=>exact id
    | step _ hs ih=>
     rename_i b c _;intro ha;have hb:=ih ha;subst hb;exfalso;have go: ∀{c:Nat} {z:Int},(((0:Nat):Int),z)∈endsL r.es∨(z,((0:Nat):Int))∈endsL r.es->False:=fun {c z} h=>by
      rcases h with h | h
      ·obtain ⟨k,hk⟩:=Zj.1 h;have hkl:=(Qx.1 hk).1;have:=A2R hr k hkl;rw [this] at hk; injection hk with hk; injection hk with e1 _;exact hno (2*k) (by omega) (by omega)
      ·obtain ⟨k,hk⟩:=Zj.1 h;have hkl:=(Qx.1 hk).1;have:=A2R hr k hkl;rw [this] at hk; injection hk with hk; injection hk with _ e2;exact hno (2*k+1) (by omega) (by omega)
     exact go (c:=c) hs
   exact hno 0 (by omega) (key this rfl)
  ·intro e;have:l.length=0:=by
    rw [h3.len];have:ownL (endsL r.es) ((0:Nat):Int) (2*(endsL r.es).length)=[]:=by rw [e]; rfl
    rw [this]; rfl
   exact ZY.1 this
 ·obtain ⟨x,l',rfl⟩:=List.exists_cons_of_ne_nil hne;have:=A1S.1 (h3.sub x (by simp));show 0≤x∧x<_;omega
def B1Y (hr:ROk r) (hE:(endsL r.es).length≠0):beginR r<2*(endsL r.es).length:=by
 obtain ⟨l,h1,h2,h3,h4⟩:=C8a hr;unfold beginR;rw [h2];have:=h4 fun e=>hE (h3.1 e);omega
def RTree.tour {t:List Int} (h:RTree r t) (hE:(endsL r.es).length≠0): ∃p,TourP (2*(endsL r.es).length) (A09 (sR (endsL r.es) r.ar) (A3u t)) (beginR r) p:=B1W h.ok h.rng h.tree (B1Y h.ok hE)
end
def C0P {r:R} (hr:ROk r) {i:Nat} {l:List Int} (hl:r.ar[i]? =some l) {j:Nat} {x:Int} (hx:l[j]? =some x):atL (endsL r.es) x.toNat=(i:Int)∧l[(j+1)%l.length]? =some (nextR (endsL r.es) r.ar x.toNat)∧0≤x:=by
 have hok:=hr.l i l hl;have hi:=(Qx.1 hx).1;have hm:=A1S.1 (hok.sub x (Qv hx));have hgl:r.ar.getD i []=l:=by rw [Qz,hl]; rfl
 have hidx:=C4b hok.nd hx;have hml:(j+1)%l.length<l.length:=VZ _ (by omega);refine ⟨hm.2.2,?_,hm.1⟩;unfold nextR A9l;rw [hm.2.2,Int.toNat_natCast,hgl,show ((x.toNat:Nat):Int)=x by omega,hidx,Qz,Qq hml]; rfl
def B30 {ar:List (List Int)} {i:Nat} {l:List Int} (hl:ar[i]? =some l):(ar.take (i+1)).flatten=(ar.take i).flatten++l:=by
 obtain ⟨h1,h2⟩:=Qx.1 hl;rw [Xy h1,List.flatten_append,h2]; simp
def C3z {ar:List (List Int)} (hn:ar.flatten.Nodup) {i:Nat} {l:List Int} (hl:ar[i]? =some l) {j:Nat} {x:Int} (hx:l[j]? =some x):x∉(ar.take i).flatten++l.take j:=by
 have hpre:((ar.take i).flatten++l).Sublist ar.flatten:=by
  rw [<-B30 hl];conv=>rhs; rw [<-WJ (i+1) ar]
  rw [List.flatten_append];exact List.sublist_append_left _ _
 obtain ⟨h1,h2⟩:=Qx.1 hx;have hts:(ar.take i).flatten++l.take (j+1)=(ar.take i).flatten++l.take j++[l[j]]:=by rw [Xy h1,Zv]
 have hsub:((ar.take i).flatten++l.take j++[l[j]]).Sublist ar.flatten:=by
  rw [<-hts];exact List.Sublist.trans (List.Sublist.append_left (List.take_sublist _ _) _) hpre
 have hnd2:=List.Nodup.sublist hsub hn;rw [h2] at hnd2;intro h;exact (YW.1 hnd2).2.2 x h x (by simp) rfl
def tourL (r:R) (t:List Int) (k:Nat):List Int:=(List.range k).map fun i=>((tourN r t i:Nat):Int)
def C0Q (r:R) (t:List Int) (k:Nat):(tourL r t k).length=k:=by simp [tourL]
def B7K (r:R) (t:List Int) (k:Nat):tourL r t (k+1)=tourL r t k++[((tourN r t k:Nat):Int)]:=by unfold tourL; rw [WQ,Jz]; rfl
structure TourS (r:R) (t:List Int):Prop where
 lt: ∀k,k<2*(endsL r.es).length->tourN r t k<2*(endsL r.es).length
 new: ∀k,k<2*(endsL r.es).length->((tourN r t k:Nat):Int)∉tourL r t k
 step: ∀k,k<2*(endsL r.es).length->((tourN r t (k+1):Nat):Int)=nextR (endsL r.es) r.ar (if ((tourN r t k / 2:Nat):Int)∈t then oppH (tourN r t k) else tourN r t k)
 bk: ∀k,k<2*(endsL r.es).length->(tourN r t (k+1)=beginR r↔ ¬k+1<2*(endsL r.es).length)
def RTree.tourS {r:R} {t:List Int} (h:RTree r t) (hE:(endsL r.es).length≠0):TourS r t:=by
 obtain ⟨p,hP⟩:=h.tour hE;have hr:=h.ok;refine ⟨fun k hk=>hP.pl k,fun k hk hm=> ?_,fun k hk=> ?_,fun k hk=> ?_⟩
 ·obtain ⟨i,hi,e⟩:=QY.1 hm;have hi:=Xk.1 hi;have h1:=hP.back i (by omega);have h2:=hP.back k hk;have e':it (A09 (sR (endsL r.es) r.ar) (A3u t)) i (beginR r)=it (A09 (sR (endsL r.es) r.ar) (A3u t)) k (beginR r):=by
   have:((tourN r t i:Nat):Int)=(tourN r t k:Nat):=e;show tourN r t i=tourN r t k;omega
  rw [e',h2] at h1; omega
 ·show ((A09 (sR (endsL r.es) r.ar) (A3u t) (tourN r t k):Nat):Int)=_;have hx:tourN r t k<2*(endsL r.es).length:=hP.pl k;unfold A09 A3u;by_cases hm:((tourN r t k / 2:Nat):Int)∈t
  ·rw [if_pos (decide_eq_true hm),if_pos hm];have:=(hr.next (A92 hx)).1;unfold sR; omega
  ·rw [if_neg (by simpa using hm),if_neg hm];have:=(hr.next hx).1;unfold sR; omega
 ·constructor
  ·intro e hc;have h1:=hP.back (k+1) hc;have h2:=hP.back 0 (by omega);have e':it (A09 (sR (endsL r.es) r.ar) (A3u t)) (k+1) (beginR r)=it (A09 (sR (endsL r.es) r.ar) (A3u t)) 0 (beginR r):=e;rw [e',h2] at h1; omega
  ·intro hc;have:k+1=2*(endsL r.es).length:=by omega
   unfold tourN; rw [this,hP.per]
def B6r (r:R) (t:List Int) (hs:RSm r) (h:RTree r t) (htl:t.length<2^40):AIter Tryz.prog 99 [.rptr [.int .i64 r.n,.slice (A0f r.es),.slice (A0n r.ar)],.rptr [.slice (A0l t)]] (B0b r t):=by
 have hr:=h.ok;obtain ⟨l0,q1,q2,q3,q4⟩:=C8a hr;have hlenI:=A6N r t;have hgetI:=fun k (hk:k<2*(endsL r.es).length)=>B3z (t:=t) hk;have e0:=A0D q1;have hal:0<r.ar.length:=(Qx.1 q1).1;have halI:(0:Int)<(r.ar.length:Int):=by omega
 have hrow:=fun i l j x hl hx=>C0P hr (i:=i) (l:=l) (j:=j) (x:=x) hl hx;have hnew:=fun i l j x hl hx=>C3z (B6q hr).1 (i:=i) (l:=l) (j:=j) (x:=x) hl hx;have hmem:=(B6q hr).2;have hLl:=hs.l;have hA:=hs.ar;have hlen:(endsL r.es).length≤2000:=A2O (g:=r.g) hs.es hr.c;by_cases hE:(endsL r.es).length=0
 ·have hl0:=q3.2 hE;subst hl0;generalize B0b r t=xs at*;refine AIter.of_body Tryz.func99 rfl (by kernel_rfl) rfl (fun l J Jx hJ hJx hY=> ?_);simp only [entry,Tryz.ntmps99,ofT,A3v,A0v,XY,ZQ,List.length_cons,List.length_nil,Nat.reduceAdd,Nat.reduceSub,List.replicate_succ,List.replicate_zero,List.cons_append,List.nil_append];have hz0:(((A0l ([]:List Int)).length:Nat):Int)=0:=rfl;refine zR (zc @e0 (zc @halI (zc @A0i (zc @hz0 Qv5)))) Qv5 Qv5 ?_;exact ⟨Qv3,_,.inl (by rw [hlenI,hE])⟩
 ·have hl0:l0≠[]:=fun e=>hE (q3.1 e);have hb0:=q4 hl0;have hb:((beginR r:Nat):Int)=l0.getD 0 0:=by unfold beginR; rw [q2]; omega
  have e00:l0[0]? =some ((beginR r:Nat):Int):=by
   rw [hb,Qz,Qq (Wy.2 hl0)]; rfl
  have e01:=A0t e00;have hl0I: ¬((l0.length:Int)=0):=by have:=Wy.2 hl0; omega
  have hl0J:(0:Int)<(l0.length:Int):=by omega
  have hS:=h.tourS hE;have hst:=hS.step;have hlt2:=hS.lt;have hbk:=hS.bk;have ht0:tourN r t 0=beginR r:=rfl;have hgR: ∀x:Nat,x<2*(endsL r.es).length->((gR (endsL r.es) x:Nat):Int)=atL (endsL r.es) x:=fun x hx=>by
   have:=A1H hr.c hx;unfold gR; omega
  generalize B0b r t=xs at*;generalize tourN r t=tn at*;generalize beginR r=b at*;clear hs hr h hS q2 q3 q4 hb;obtain ⟨n,es,ar⟩:=r;simp only at*;generalize endsL es=L at*;have hS0:(ar.take 0).flatten=[]:=rfl;refine AIter.of_body Tryz.func99 rfl (by kernel_rfl) rfl (fun l J Jx hJ hJx hY=> ?_);simp only [entry,Tryz.ntmps99,ofT,A3v,A0v,XY,ZQ,List.length_cons,List.length_nil,Nat.reduceAdd,Nat.reduceSub,List.replicate_succ,List.replicate_zero,List.cons_append,List.nil_append];refine zR (zc @e0 (zc @halI (zc @A0i (zc @A0e (zc @hl0I Qv5))))) Qv5 Qv5 ?_;refine AWp.loopS (α:=Nat) 78 (fun i=>[(0,.c (.yld l)),(1,.c (.rptr [.int .i64 n,.slice (A0f es),.slice (A0n ar)])),(2,.c (.rptr [.slice (A0l t)])),(4,.c (.map 1)),(5,.c (.map 2)),(22,.c (.slice (A0n ar) .none)),(23,.c (.int .i64 (ar.length:Int))),(24,.c (.int .i64 (i:Int)))]) (fun i=>[.ghost (J 0),.map (mMI (fun x=>atL L x.toNat) (ar.take i).flatten),.map (mMI (fun x=>nextR L ar x.toNat) (ar.take i).flatten)]) (fun i=>i≤ar.length) (fun i=>ar.length-i) (0) (hk:=Weak.headL 3 78 [0,1,2,4,5,22,23,24] zW) (h0:=?_) (round:=fun i hI=>?_)
  ·exact Xj _
  ·have hi:i≤ar.length:=hI;clear hI;by_cases hlt:i<ar.length
   ·have hltI:(i:Int)<(ar.length:Int):=by omega
    have g0:=Qq hlt;have g1:=A0D g0;have hll:=hLl _ (Xw hlt);have hft:=B30 g0;have hrow2:=fun j x=>hrow i _ j x g0;have hnew2:=fun j x=>hnew i _ j x g0;generalize ar[i]=lv at*;refine zR (zc @hltI (zc @g1 (zc @A0i (zc @A0e Qv5)))) Qv5 Qv5 ?_;refine AWp.loopS (α:=Nat) 78 (fun j=>[(0,.c (.yld l)),(1,.c (.rptr [.int .i64 n,.slice (A0f es),.slice (A0n ar)])),(2,.c (.rptr [.slice (A0l t)])),(4,.c (.map 1)),(5,.c (.map 2)),(6,.c (.int .i64 (i:Int))),(7,.c (.slice (A0l lv) .none)),(22,.c (.slice (A0n ar) .none)),(23,.c (.int .i64 (ar.length:Int))),(24,.c (.int .i64 (i:Int))),(29,.c (.slice (A0l lv) .none)),(30,.c (.int .i64 (lv.length:Int))),(31,.c (.int .i64 (j:Int)))]) (fun j=>[.ghost (J 0),.map (mMI (fun x=>atL L x.toNat) ((ar.take i).flatten++lv.take j)),.map (mMI (fun x=>nextR L ar x.toNat) ((ar.take i).flatten++lv.take j))]) (fun j=>j≤lv.length) (fun j=>lv.length-j) (0) (hk:=Weak.headL 3 78 [0,1,2,4,5,6,7,22,23,24,29,30,31] zW) (h0:=?_) (round:=fun j hI=>?_)
    ·exact Xj _
    ·have hj:j≤lv.length:=hI;clear hI;by_cases hjl:j<lv.length
     ·have hjI:(j:Int)<(lv.length:Int):=by omega
      have f0:=Qq hjl;have f1:=A0t f0;obtain ⟨r1,r2,r3⟩:=hrow2 j _ f0;have r4:=hnew2 j _ f0;have f2:=A0t r2;have hts:(ar.take i).flatten++lv.take (j+1)=(ar.take i).flatten++lv.take j++[lv[j]]:=by rw [Xy hjl,Zv]
      have hml:(j+1)%lv.length<lv.length:=VZ _ (by omega);have hmlI:(((j+1)%lv.length:Nat):Int)<(lv.length:Int):=by omega
      have htm:=C7H j lv.length;have hp1:=C0O (f:=fun x=>atL L x.toNat) r4 r1.symm;have hp2:=C0O (f:=fun x=>nextR L ar x.toNat) r4 rfl;rw [<-hts] at hp1 hp2;generalize lv[j]=x at*;generalize hS2:(ar.take i).flatten++lv.take (j+1)=S2 at*;generalize (ar.take i).flatten++lv.take j=S at*;generalize (j+1)%lv.length=q at*
      repeat' (first|((first|(refine zT ?_;intro K' hK')|(refine zG ?_ ?_<;>(try refine zH ?_)<;>intro hguard<;>(try exact zX)<;>try intro K' hK'))<;>((try simp+contextual only [go_sem,hjI,f1,f2,A0e,Int.toNat_natCast,Wj,htm,hmlI,hp1,hp2,A2N,hl0I]);(repeat' first|(with_reducible refine hK' _ _ ?_;clear hK' K')|(refine ⟨_,A8c,rfl,B6p,?_⟩ ; try simp+contextual only [go_sem,hjI,f1,f2,A0e,Int.toNat_natCast,Wj,htm,hmlI,hp1,hp2,A2N,hl0I])|exact zY|with_reducible refine Qv4 ?_ ?_|(with_reducible intro hpath;try exact zP)|(refine hK' _ _ ?_;clear hK' K')|fail);try refine zS ?_))|(refine zE ?_;refine hK _ _ ?_;clear hK K)|(refine zN ?_;try refine zS ?_)|refine zA ?_|(refine zB ?_;intro K hK)|(refine zC ?_ ?_<;>(try refine zH ?_)<;>intro hcond<;>try exact zX)|fail)
      refine ⟨j+1,Weak.headF 3 78 [0,1,2,4,5,6,7,22,23,24,29,30,31] (zc @hS2 Qv5) zW,?_,?_⟩
      ·exact hjl
      ·omega
     ·have ej:j=lv.length:=by omega
      have hnl: ¬((j:Int)<(lv.length:Int)):=by omega
      rw [ej,Zz,<-hft];rw [ej] at hnl;generalize hS2:(ar.take (i+1)).flatten=S2 at*;refine zR (zc @hnl Qv5) Qv5 Qv5 ?_;refine ⟨i+1,Weak.headF 3 78 [0,1,2,4,5,22,23,24] (zc @hS2 Qv5) zW,?_,?_⟩
      ·exact hlt
      ·omega
   ·have ei:i=ar.length:=by omega
    subst ei;have hnl: ¬((ar.length:Int)<(ar.length:Int)):=by omega
    rw [Zz];generalize ar.flatten=S at*;refine zJ (stop 14) (zc @hnl (zc @e0 (zc @halI (zc @e01 (zc @hl0J (zc @A0i (zc @A0e Qv5))))))) Qv5 Qv5 Qv5 ?_;rw [<-ht0];have hSm: ∀x:Nat,x<2*L.length->((x:Nat):Int)∈S:=fun x hx=>(hmem _).2 ⟨by omega,by omega⟩;refine AWp.loopS (α:=Nat) 78 (fun k=>[(0,.c (.yld l)),(1,.c (.rptr [.int .i64 n,.slice (A0f es),.slice (A0n ar)])),(2,.c (.rptr [.slice (A0l t)])),(4,.c (.map 1)),(5,.c (.map 2)),(10,.c (.int .i64 (tn 0:Nat))),(11,.c (.int .i64 (tn k:Nat))),(12,.c (.bool (decide (k=0)||decide (k<2*L.length))))]) (fun k=>[.ghost (J k),.map (mMI (fun x=>atL L x.toNat) S),.map (mMI (fun x=>nextR L ar x.toNat) S)]) (fun k=>k≤2*L.length) (fun k=>2*L.length-k) (0) (hk:=Weak.headL 3 78 [0,1,2,4,5,10,11,12] zW) (h0:=?_) (round:=fun k hI=>?_)
    ·exact Xj _
    ·have hk:k≤2*L.length:=hI;clear hI;by_cases hlt:k<2*L.length
     ·have hx:=hlt2 k hlt;have hgk:=hgetI k hlt;rw [hgR _ hx] at hgk;have hdec:(decide (k=0)||decide (k<2*L.length))=true:=by simp [hlt]
      rw [hdec];have v1:=B1X (fun x=>atL L x.toNat) (hSm _ hx) (.c (.int .i64 0));rw [Int.toNat_natCast] at v1;have c2:=A5X t ((tn k / 2:Nat):Int) htl;have hd:(((tn k:Nat):Int)).tdiv 2=((tn k / 2:Nat):Int):=rfl;have hxo:B6I .xor .i64 ((tn k:Nat):Int) 1=((oppH (tn k):Nat):Int):=C2U _ (by omega);have hnx:=hst k hlt;have hmore:=hbk k hlt;have hb:(!decide (((tn (k+1):Nat):Int)=((tn 0:Nat):Int)))=(decide (k+1=0)||decide (k+1<2*L.length)):=by
       rw [<-ht0] at hmore;by_cases hc:k+1<2*L.length
       ·rw [decide_eq_true hc,decide_eq_false (fun e=>hmore.1 (by omega) hc)]; simp
       ·rw [decide_eq_false hc,decide_eq_true (by have:=hmore.2 hc; omega)]; simp
      refine zM (zc Qv5 (prt 16 5)) (zc @v1 Qv5) Qv5 (zc (zc A8c B6p) Qv5) Qv5 (ed fun hp hpc=>?_);simp only [Zy,Yq];refine AReg.yield rfl rfl rfl (by rfl) (by with_unfolding_all rfl) (by simp [okBlk]) (hY _ _ hgk) (hJ _) hJx ?_ ?_<;>(try refine zS ?_)<;>refine AReg.rest (fun K hK=> ?_)
      ·
       by_cases hm:((tn k / 2:Nat):Int)∈t
       ·rw [decide_eq_true hm] at c2;rw [if_pos hm] at hnx;have v2:=B1X (fun x=>nextR L ar x.toNat) (hSm _ (A92 hx)) (.c (.int .i64 0));rw [Int.toNat_natCast,<-hnx] at v2;refine zM Qv5 (zc @hd (zc @hxo (zc @v2 Qv5))) (zc c2 Qv5) (zc (zc A8c B6p) Qv5) Qv5 (ed fun hp hpc=>?_);rw [hb];refine ⟨k+1,Weak.headN 3 78 [0,1,2,4,5,10,11,12] zW,?_,?_⟩
        ·exact hlt
        ·omega
       ·rw [decide_eq_false hm] at c2;rw [if_neg hm] at hnx;have v2:=B1X (fun x=>nextR L ar x.toNat) (hSm _ hx) (.c (.int .i64 0));rw [Int.toNat_natCast,<-hnx] at v2;refine zM Qv5 (zc @hd (zc @v2 Qv5)) (zc c2 Qv5) (zc (zc A8c B6p) Qv5) Qv5 (ed fun hp hpc=>?_);rw [hb];refine ⟨k+1,Weak.headN 3 78 [0,1,2,4,5,10,11,12] zW,?_,?_⟩
        ·exact hlt
        ·omega
      ·
       refine zM trivial trivial trivial trivial trivial (ed fun hp hpc=>?_);exact ⟨Qv3,_,.inr rfl⟩
     ·have ek:k=2*L.length:=by omega
      have hdec:(decide (k=0)||decide (k<2*L.length))=false:=by simp; omega
      rw [hdec];refine zR Qv5 Qv5 Qv5 ?_;exact ⟨Qv3,_,.inl (by rw [hlenI,ek])⟩
end Go.Proofs.YtdbdfkohpjefjaaGreat
