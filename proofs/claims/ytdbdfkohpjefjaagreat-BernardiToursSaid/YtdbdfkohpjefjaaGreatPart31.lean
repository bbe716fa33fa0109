/- A part of the proof. -/
import Derived.Test.YtdbdfkohpjefjaaGreatPart29
import Derived.Test.YtdbdfkohpjefjaaGreatPart28
set_option linter.all false
set_option maxHeartbeats 4000000
set_option maxRecDepth 100000
namespace Go.Proofs.YtdbdfkohpjefjaaGreat
open Go.Sp
abbrev BS3:=List Int×List Nat×Nat
def stepD (v:Nat) (s:BS3) (x:Int×Int):BS3:=if s.1.getD x.1.toNat 0<0 then (s.1.set x.1.toNat (s.1.getD v 0+1),s.2.1++[x.1.toNat],s.2.2+1) else s
def B6m (es:List E) (v:Nat) (s:BS3):BS3:=(lnkL es v).foldl (stepD v) s
def cntNeg (o:List Int):Nat:=o.countP fun x=>decide (x<0)
theorem A4X: ∀{o:List Int} {u:Nat} {x y:Int},o[u]? =some y->y<0->0≤x->cntNeg (o.set u x)+1=cntNeg o
 | [],u,x,y,h,_,_=>by simp at h
 | a::o,0,x,y,h,h1,h2=>by
  simp at h; subst h;unfold cntNeg;simp only [List.set_cons_zero,Qz1];rw [if_pos (decide_eq_true h1),if_neg (by simpa using h2)]
 | a::o,u+1,x,y,h,h1,h2=>by
  have:=A4X (o:=o) (u:=u) (x:=x) (y:=y) (by simpa using h) h1 h2;unfold cntNeg at this ⊢;simp only [List.set_cons_succ,Qz1];omega
theorem A49 (o:List Int) (k:Nat) (x:Int) (v:Nat) (hk:k<o.length):(o.set k x).getD v 0=if v=k then x else o.getD v 0:=by
 rw [Qz,Qj5];by_cases e:k=v
 ·subst e; rw [if_pos rfl,if_pos hk,if_pos rfl]; rfl
 ·rw [if_neg e,if_neg (fun h=>e h.symm),Qz]
theorem C2C {es:List E} {v:Int} {x:Int×Int} (h:x∈lnkL es v):(v,x.2)∈lnkL es x.1:=by
 obtain ⟨e,he,h1,h2,h3⟩:=A6N h;unfold lnkL;rw [List.mem_filterMap];refine ⟨e,he,?_⟩;unfold B9Q;rcases h3 with ⟨h3,h4⟩ | ⟨h3,h4⟩
 ·rw [if_pos ⟨h2,.inr h4.symm⟩,h1,h4,<-h3]; congr 2; omega
 ·rw [if_pos ⟨h2,.inl h4.symm⟩,h1,h4,<-h3]; congr 2; omega
structure BFq (es:List E) (n q:Nat) (o:List Int) (Q:List Nat):Prop where
 len:o.length=n
 q0:o.getD q 0=0
 bnd: ∀x,x<n-> -1≤o.getD x 0∧o.getD x 0+cntNeg o≤n-1
 qm: ∀a,a∈Q->a<n∧0≤o.getD a 0
 srt:Q.Pairwise fun a b=>o.getD a 0≤o.getD b 0
 gap: ∀a b,a∈Q->b∈Q->o.getD b 0≤o.getD a 0+1
 proc: ∀x,x<n->0≤o.getD x 0->x∉Q->(∀a,a∈Q->o.getD x 0≤o.getD a 0)∧ ∀y,y∈lnkL es x->0≤o.getD y.1.toNat 0∧o.getD y.1.toNat 0≤o.getD x 0+1
 par: ∀x,x<n->x≠q->0≤o.getD x 0-> ∃y,y∈lnkL es x∧0≤o.getD y.1.toNat 0∧o.getD y.1.toNat 0+1=o.getD x 0
structure PBq (es:List E) (n q v:Nat) (l:List (Int×Int)) (o:List Int) (Q:List Nat):Prop where
 len:o.length=n
 q0:o.getD q 0=0
 bnd: ∀x,x<n-> -1≤o.getD x 0∧o.getD x 0+cntNeg o≤n-1
 vv:v<n∧0≤o.getD v 0
 qm: ∀a,a∈Q->a<n∧o.getD v 0≤o.getD a 0∧o.getD a 0≤o.getD v 0+1
 srt:Q.Pairwise fun a b=>o.getD a 0≤o.getD b 0
 proc: ∀x,x<n->x≠v->0≤o.getD x 0->x∉Q->o.getD x 0≤o.getD v 0∧ ∀y,y∈lnkL es x->0≤o.getD y.1.toNat 0∧o.getD y.1.toNat 0≤o.getD x 0+1
 par: ∀x,x<n->x≠q->0≤o.getD x 0-> ∃y,y∈lnkL es x∧0≤o.getD y.1.toNat 0∧o.getD y.1.toNat 0+1=o.getD x 0
 dn: ∀y,y∈l->0≤o.getD y.1.toNat 0∧o.getD y.1.toNat 0≤o.getD v 0+1
section
variable {es:List E} {n q v:Nat}
theorem BFq.pop {o:List Int} {Q:List Nat} (h:BFq es n q o (v::Q)):PBq es n q v [] o Q:=by
 have hv:=h.qm v (by simp);have hs:=YV.1 h.srt;refine ⟨h.len,h.q0,h.bnd,hv,fun a ha=>⟨(h.qm a (by simp [ha])).1,hs.1 a ha,h.gap v a (by simp) (by simp [ha])⟩,hs.2,fun x hx hxv h0 hxQ=> ?_,h.par,by simp⟩;have:=h.proc x hx h0 (by simp [hxv,hxQ]);exact ⟨this.1 v (by simp),this.2⟩
theorem PBq.step {l:List (Int×Int)} {s:BS3} (h:PBq es n q v l s.1 s.2.1) {x:Int×Int} (hx:x∈lnkL es v) (hxn:0≤x.1∧x.1<n):PBq es n q v (l++[x]) (stepD v s x).1 (stepD v s x).2.1:=by
 obtain ⟨o,Q,p⟩:=s;obtain ⟨u,k⟩:=x;simp only at h hxn;obtain ⟨w,rfl⟩:=XX hxn.1;have hw:w<n:=by omega
 obtain ⟨e,he,_,hne,hab⟩:=A6N hx;have hwv:w≠v:=by rintro rfl; simp only at hab; omega
 unfold stepD;simp only [Int.toNat_natCast];split
 ·rename_i hneg;have hg:=fun y=>A49 o w (o.getD v 0+1) y (by rw [h.len]; exact hw);have hv0:=h.vv.2;have hgv:(o.set w (o.getD v 0+1)).getD v 0=o.getD v 0:=by rw [hg,if_neg (Ne.symm hwv)]
  have hgo: ∀y,0≤o.getD y 0->(o.set w (o.getD v 0+1)).getD y 0=o.getD y 0:=fun y hy=>by
   rw [hg,if_neg]; rintro rfl; omega
  have hcn:=A4X (o:=o) (u:=w) (x:=o.getD v 0+1) (y:=o.getD w 0) (A11 (by rw [h.len]; exact hw)) hneg (by omega);have hqw:q≠w:=by rintro rfl; have:=h.q0; omega
  have hQ0: ∀a,a∈Q->0≤o.getD a 0:=fun a ha=>by have:=h.qm a ha; omega
  show PBq es n q v _ (o.set w (o.getD v 0+1)) (Q++[w]);refine ⟨by rw [Yz]; exact h.len,by rw [hg,if_neg hqw]; exact h.q0,fun x hx=> ?_,⟨h.vv.1,by rw [hgv]; exact hv0⟩,fun a ha=> ?_,?_,fun x hxn hxv h0 hxQ=> ?_,fun x hxn hxq h0=> ?_,fun y hy=> ?_⟩
  ·have h1:=h.bnd x hx;have h2:=h.bnd v h.vv.1;rw [hg];by_cases e:x=w
   ·rw [if_pos e]; omega
   ·rw [if_neg e]; omega
  ·rw [hgv];rcases XW.1 ha with ha | ha
   ·rw [hgo a (hQ0 a ha)]; exact h.qm a ha
   ·rw [Zz.1 ha,hg,if_pos rfl]; exact ⟨hw,by omega,Qx7 _⟩
  ·rw [Qw3];refine ⟨h.srt.imp_of_mem fun {a b} ha hb hab=>by rw [hgo a (hQ0 a ha),hgo b (hQ0 b hb)]; exact hab,by simp,fun a ha b hb=> ?_⟩;rw [Zz.1 hb,hgo a (hQ0 a ha),hg w,if_pos rfl];exact (h.qm a ha).2.2
  ·have hxw:x≠w:=fun e=>hxQ (by rw [e]; simp);rw [hg,if_neg hxw] at h0 ⊢;rw [hgv];obtain ⟨q1,q2⟩:=h.proc x hxn hxv h0 fun hm=>hxQ (Qw2 _ hm);refine ⟨q1,fun y hy=> ?_⟩;have:=q2 y hy;rw [hgo _ this.1]; exact this
  ·by_cases hxw:x=w
   ·subst hxw;refine ⟨((v:Nat),k),C2C hx,?_,?_⟩
    ·simp only [Int.toNat_natCast]; rw [hgv]; exact hv0
    ·simp only [Int.toNat_natCast]; rw [hgv,hg,if_pos rfl]
   ·rw [hg,if_neg hxw] at h0 ⊢;obtain ⟨y,y1,y2,y3⟩:=h.par x hxn hxq h0;exact ⟨y,y1,by rw [hgo _ y2]; exact y2,by rw [hgo _ y2]; exact y3⟩
  ·rw [hgv];rcases XW.1 hy with hy | hy
   ·have:=h.dn y hy;rw [hgo _ this.1]; exact this
   ·rw [Zz.1 hy];simp only [Int.toNat_natCast];rw [hg,if_pos rfl]; omega
 ·rename_i hneg;refine { h with dn:=fun y hy=> ?_ };rcases XW.1 hy with hy | hy
  ·exact h.dn y hy
  ·rw [Zz.1 hy];simp only [Int.toNat_natCast];refine ⟨by omega,?_⟩;by_cases hm:w∈Q
   ·exact (h.qm w hm).2.2
   ·have:=(h.proc w hw hwv (by omega) hm).1; omega
theorem PBq.all {s:BS3} (hn: ∀x,x∈lnkL es v->0≤x.1∧x.1<n) (h:PBq es n q v [] s.1 s.2.1): ∀j,j≤(lnkL es v).length->PBq es n q v ((lnkL es v).take j) (((lnkL es v).take j).foldl (stepD v) s).1 (((lnkL es v).take j).foldl (stepD v) s).2.1
 | 0,_=>h
 | j+1,hj=>by
  have hlt:j<(lnkL es v).length:=by omega
  have hm:=Xw hlt;have ih:=PBq.all hn h j (by omega);rw [XQ hlt,Qz7];exact ih.step hm (hn _ hm)
theorem PBq.done {o:List Int} {Q:List Nat} (h:PBq es n q v (lnkL es v) o Q):BFq es n q o Q:=by
 refine ⟨h.len,h.q0,h.bnd,fun a ha=>⟨(h.qm a ha).1,by have:=h.qm a ha; have:=h.vv; omega⟩,h.srt,fun a b ha hb=>by have:=h.qm a ha; have:=h.qm b hb; omega,fun x hx h0 hxQ=> ?_,h.par⟩;by_cases e:x=v
 ·subst e; exact ⟨fun a ha=>(h.qm a ha).2.1,h.dn⟩
 ·have:=h.proc x hx e h0 hxQ;exact ⟨fun a ha=>Int.le_trans this.1 (h.qm a ha).2.1,this.2⟩
theorem B8H (v:Nat) (s:BS3) (x:Int×Int) (h:0≤s.1.getD v 0) (hx:x.1.toNat<s.1.length):2*cntNeg (stepD v s x).1+(stepD v s x).2.1.length≤2*cntNeg s.1+s.2.1.length:=by
 unfold stepD;split
 ·rename_i hneg;have:=A4X (o:=s.1) (u:=x.1.toNat) (x:=s.1.getD v 0+1) (A11 hx) hneg (by omega);simp only [Xv,List.length_singleton]; omega
 ·exact QQ _
theorem PBq.cnt {s:BS3} (hn: ∀x,x∈lnkL es v->0≤x.1∧x.1<n) (h:PBq es n q v [] s.1 s.2.1): ∀j,j≤(lnkL es v).length->2*cntNeg (((lnkL es v).take j).foldl (stepD v) s).1+(((lnkL es v).take j).foldl (stepD v) s).2.1.length≤2*cntNeg s.1+s.2.1.length
 | 0,_=>QQ _
 | j+1,hj=>by
  have hlt:j<(lnkL es v).length:=by omega
  have hm:=Xw hlt;have ih:=PBq.cnt hn h j (by omega);have hp:=h.all hn j (by omega);rw [XQ hlt,Qz7];refine Yj (B8H v _ _ hp.vv.2 (by rw [hp.len]; have:=hn _ hm; omega)) ih
theorem B5Q (v:Nat) (s:BS3) {j:Nat} {x:Int×Int} (h:(lnkL es v)[j]? =some x):((lnkL es v).take (j+1)).foldl (stepD v) s=stepD v (((lnkL es v).take j).foldl (stepD v) s) x:=by
 rw [take_snoc h,Qz7]; rfl
theorem B1Z (v:Nat): ∀(l:List (Int×Int)) (s:BS3),(l.foldl (stepD v) s).1.length=s.1.length
 | [],_=>rfl
 | x::l,s=>by
  rw [List.foldl_cons,B1Z v l];unfold stepD;split
  ·simp only [Yz]
  ·rfl
inductive DEnd (es:List E):BS3->List Int->Nat->Prop where
 | stop {o:List Int} {p:Nat}:DEnd es (o,[],p) o p
 | go {o B:List Int} {v:Nat} {Q:List Nat} {p pB:Nat}:DEnd es (B6m es v (o,Q,p)) B pB->DEnd es (o,v::Q,p) B pB
theorem C5f (hn: ∀(v:Nat) x,x∈lnkL es v->0≤x.1∧x.1<n): ∀(f:Nat) (s:BS3),2*cntNeg s.1+s.2.1.length≤f->BFq es n q s.1 s.2.1-> ∃B pB,DEnd es s B pB∧BFq es n q B []:=by
 intro f
 induction f with
 | zero=>
  rintro ⟨o,Q,p⟩ hc h;simp only at hc h;cases Q with
  | nil=>exact ⟨o,p,.stop,h⟩
  | cons v Q=>simp at hc
 | succ f ih=>
  rintro ⟨o,Q,p⟩ hc h;simp only at hc h;cases Q with
  | nil=>exact ⟨o,p,.stop,h⟩
  | cons v Q=>
   have hp:=h.pop;have hd:=PBq.all (s:=(o,Q,p)) (hn v) hp _ (QQ _);have hct:=PBq.cnt (s:=(o,Q,p)) (hn v) hp _ (QQ _);rw [Zk] at hd hct;obtain ⟨B,pB,b1,b2⟩:=ih (B6m es v (o,Q,p)) (by unfold B6m; simp only [List.length_cons] at hc; simp only at hct; omega) hd.done;exact ⟨B,pB,.go b1,b2⟩
end
def A7v (n q:Nat):List Int:=(List.replicate n (-1)).set q 0
theorem B5R (n:Nat):cntNeg (List.replicate n (-1))=n:=by
 induction n with
 | zero=>rfl
 | succ n ih=>unfold cntNeg at ih ⊢; rw [List.replicate_succ,Qz1,ih]; simp
theorem B43 {es:List E} {n q:Nat} (hq:q<n):BFq es n q (A7v n q) [q]:=by
 have hrl:(List.replicate n (-1):List Int).length=n:=by simp
 have hg: ∀x,(A7v n q).getD x 0=if x=q then 0 else (List.replicate n (-1)).getD x 0:=fun x=>A49 _ q 0 x (by rw [hrl]; exact hq)
 have hr: ∀x,x<n->(List.replicate n (-1):List Int).getD x 0= -1:=fun x hx=>by
  rw [Qz,Qq6,if_pos hx]; rfl
 have hc:=A4X (o:=List.replicate n (-1)) (u:=q) (x:=0) (y:= -1) (by rw [Qq6,if_pos hq]) (by decide) (by decide);rw [B5R] at hc;have hc':cntNeg (A7v n q)+1=n:=hc;have hneg: ∀x,x<n->0≤(A7v n q).getD x 0->x=q:=fun x hx h0=>by
  refine ZJ fun e=> ?_;rw [hg,if_neg e,hr x hx] at h0; omega
 refine ⟨by simp [A7v],by rw [hg,if_pos rfl],fun x hx=> ?_,fun a ha=> ?_,by simp,fun a b ha hb=> ?_,fun x hx h0 hxQ=> ?_,fun x hx hxq h0=> ?_⟩
 ·rw [hg];by_cases e:x=q
  ·rw [if_pos e]; omega
  ·rw [if_neg e,hr x hx]; omega
 ·rw [Zz.1 ha,hg,if_pos rfl]; exact ⟨hq,Qx7 _⟩
 ·rw [Zz.1 ha,Zz.1 hb]; omega
 ·exact absurd (by rw [hneg x hx h0]; simp) hxQ
 ·exact absurd (hneg x hx h0) hxq
noncomputable def A5e (r:R) (t:List Int):Int:=if ribE r≠0 then ribE r else A46 r.g t
theorem C0L {n:Int}: ∀{p:Option Int} {l:List Int},A2X n p l=0-> ∀x,x∈l->0≤x∧x<n:=fun h=>A4V h
theorem A3Q {r:R} {t:List Int} (h:A5e r t=0):RTree r t∧((t.length:Int)=r.n-1):=by
 unfold A5e at h;by_cases h1:ribE r≠0
 ·rw [if_pos h1] at h; exact absurd h h1
 ·rw [if_neg h1] at h;have hr:=B7F (show ribE r=0 by omega);unfold A46 at h;by_cases h2:A0w r.g≠0
  ·rw [if_pos h2] at h; exact absurd h h2
  ·rw [if_neg h2] at h;by_cases h3:A2X (endsL r.g.es).length none t≠0
   ·rw [if_pos h3] at h; exact absurd h h3
   ·rw [if_neg h3] at h;by_cases h4:(t.length:Int)≠r.g.n-1
    ·rw [if_pos h4] at h; omega
    ·rw [if_neg h4] at h;have h5:treeB r.g.n.toNat (endsL r.g.es) t=true:=by
      cases q:treeB r.g.n.toNat (endsL r.g.es) t with
      | true=>rfl
      | false=>rw [q] at h; simp at h
     exact ⟨⟨hr,C0L (p:=none) (show A2X ((endsL r.g.es).length:Int) none t=0 by omega),h5⟩,by show _=r.g.n-1; omega⟩
theorem A8M (r:R) (t:List Int) (hs:RSm r) (htl:t.length<2^40):ACall Tryz.prog 52 [tR r,A0m t] (A0k (A5e r t)):=by
 have hC:=B1R r hs;have hT:=B8l r.g t hs.es htl;unfold A5e;obtain ⟨n,es,ar⟩:=r;change ACall _ _ [tG ⟨n,es⟩,_] _ at hT;by_cases h:ribE ⟨n,es,ar⟩=0
 ·rw [if_neg (by omega)];rw [h] at hC;refine ACall.of_body Tryz.func52 rfl (by kernel_rfl) ?_;simp only [entry,Tryz.ntmps52,tR];refine zU ?_;refine zR Qw6 (zc hC (zc hT Qw6)) Qw6 ?_;simp [A0y,A0x,Blk.cells,ty,Tryz.results52,A0s,A0u,toT,A0e,A0b,A0c,A0a,A0k]
 ·rw [if_pos h];generalize ribE ⟨n,es,ar⟩=e at*;refine ACall.of_body Tryz.func52 rfl (by kernel_rfl) ?_;simp only [entry,Tryz.ntmps52,tR];refine zU ?_;refine zR (zc @h Qw6) (zc hC Qw6) Qw6 ?_;simp [A0y,A0x,Blk.cells,ty,Tryz.results52,A0s,A0u,toT,A0e,A0b,A0c,A0a,A0k]
theorem A9S (r:R) (t:List Int) (hs:RSm r) (htl:t.length≤40):ACall Tryz.prog 54 [tR r,A0m t] (A0k (A5e r t)):=by
 have hC:=B3m r hs;have hT:=B5G r.g t hs.es htl;unfold A5e;obtain ⟨n,es,ar⟩:=r;change ACall _ _ [tG ⟨n,es⟩,_] _ at hT;by_cases h:ribE ⟨n,es,ar⟩=0
 ·rw [if_neg (by omega)];rw [h] at hC;refine ACall.of_body Tryz.func54 rfl (by kernel_rfl) ?_;simp only [entry,Tryz.ntmps54,tR];refine zU ?_;refine zR Qw6 (zc hC (zc hT Qw6)) Qw6 ?_;simp [A0y,A0x,Blk.cells,ty,Tryz.results54,A0s,A0u,toT,A0e,A0b,A0c,A0a,A0k]
 ·rw [if_pos h];generalize ribE ⟨n,es,ar⟩=e at*;refine ACall.of_body Tryz.func54 rfl (by kernel_rfl) ?_;simp only [entry,Tryz.ntmps54,tR];refine zU ?_;refine zR (zc @h Qw6) (zc hC Qw6) Qw6 ?_;simp [A0y,A0x,Blk.cells,ty,Tryz.results54,A0s,A0u,toT,A0e,A0b,A0c,A0a,A0k]
theorem B2a (r:R) (t:List Int) (hs:RSm r) (h:RTree r t) (htl:t.length<2^40):ACall Tryz.prog 55 [tR r,A0m t] (A0m (tourL r t (2*(endsL r.es).length))):=by
 have hr:=h.ok;have hH:=A9M r.g hs.es hr.c;have hlen:(endsL r.es).length≤2000:=A1t (g:=r.g) hs.es hr.c;by_cases hE:(endsL r.es).length=0
 ·have h0:tourL r t (2*(endsL r.es).length)=[]:=by rw [hE]; rfl
  rw [h0];have hH2:ACall Tryz.prog 100 [tG r.g] (A0k 0):=by
   have e:(2*((endsL r.g.es).length:Int))=0:=by show (2*((endsL r.es).length:Int))=0; omega
   rw [<-e]; exact hH
  obtain ⟨n,es,ar⟩:=r;change ACall _ _ [tG ⟨n,es⟩] _ at hH2;refine ACall.of_body Tryz.func55 rfl (by kernel_rfl) ?_;simp only [entry,Tryz.ntmps55,tR];refine zU ?_;refine zR Qw6 (zc hH2 Qw6) Qw6 ?_;simp [A0y,A0x,Blk.cells,ty,Tryz.results55,A0s,A0u,toT,A0e,A0b,A0c,A0a,A0m,A0o]
 ·have hS:=h.tourS hE;obtain ⟨l0,q1,q2,q3,q4⟩:=B8C hr hE;have e0:=A0V q1;have e1:=A0t q2;have q3I:(0:Int)<(l0.length:Int):=by omega
  have q4I:(0:Int)<(r.ar.length:Int):=by omega
  have hB:=fun k hk=>B8v r hs hr (if ((tourN r t k / 2:Nat):Int)∈t then oppH (tourN r t k) else tourN r t k) (by have:=hS.lt k hk; have:=B4e this; split<;>assumption);have hst:=hS.step;have hlt2:=hS.lt;have hnw:=hS.new;have ht0:tourN r t 0=beginR r:=rfl;have hsu:=A9R r t;have hll:=A6q r t;have hz:A0o (tourL r t 0)=[]:=rfl;generalize tourL r t=tl at*;generalize tourN r t=tn at*;generalize beginR r=b at*;have hE2: ¬(2*((endsL r.es).length:Int)=0):=by omega
  clear h hs hr hS;obtain ⟨n,es,ar⟩:=r;simp only [R.g] at*;generalize endsL es=L at*;have hB2: ∀k,k<2*L.length->ACall Tryz.prog 102 [tR ⟨n,es,ar⟩,A0k ((if ((tn k / 2:Nat):Int)∈t then oppH (tn k) else tn k:Nat):Int)] (A0k (tn (k+1):Nat)):=fun k hk=>by
   rw [hst k hk]; exact hB k hk
  clear hB hst;refine ACall.of_body Tryz.func55 rfl (by kernel_rfl) ?_;simp only [entry,Tryz.ntmps55,tR];refine zU ?_;refine zR (zc @e0 (zc @e1 (zc @q3I (zc @q4I (zc @hE2 (zc @A0q (zc @A0d Qw6))))))) (zc hH Qw6) Qw6 ?_;refine AWp.weak (A0r.opens ((fun t f=>[f,f,f,f,f,f,t,f,f,f,f,f,f,f,f,f,f,f,f,f,f,f,f,f,f,f,f,f,f,f,f,f,f,f,f,f,f,f,f,f,f,f,f]) true false) 1 (by first | omega | simp)) ?_;simp only [A2J,B0l,List.length_cons,List.length_nil,Xv,Nat.reduceAdd,List.cons_append,List.nil_append];rw [<-ht0,<-hz];refine AWp.loopS (α:=Nat) 43 (fun k=>[(1,.c (.slice (A0o t) .none)),(2,.c (.ptr 0 0)),(5,.c (.int .i64 (tn k:Nat))),(6,.c (.slice (A0o (tl k)) (.chain 1))),(7,.c (.int .i64 (k:Int)))]) (fun k=>[.box [.int .i64 n,.slice (A0f es) .none,.slice (A07 ar) .none],.chain k 1]) (fun k=>k≤2*L.length) (fun k=>2*L.length-k) (0) (hk:=A0r.headL 2 43 [1,2,5,6,7] zW) (h0:=?_) (round:=fun k hI=>?_)
  ·exact Xj _
  ·have hk:k≤2*L.length:=hI;clear hI;by_cases hlt:k<2*L.length
   ·have hltI:(k:Int)<2*(L.length:Int):=by omega
    have hx:=hlt2 k hlt;have c1:=A6h (tl k) (tn k:Nat) (by rw [hll]; omega);rw [decide_eq_false (hnw k hlt)] at c1;have c2:=A6h t ((tn k / 2:Nat):Int) htl;have c3:=A8J (tn k) (by omega);have c4:=hB2 k hlt;have hd:(((tn k:Nat):Int)).tdiv 2=((tn k / 2:Nat):Int):=rfl;have hs1:=hsu k;have hl1:=hll k;by_cases hm:((tn k / 2:Nat):Int)∈t
    ·rw [decide_eq_true hm] at c2;rw [if_pos hm] at c4;generalize hT2:tl (k+1)=T2 at*;generalize tl k=T at*;generalize hY2:tn (k+1)=y at*;generalize tn k=x at*;refine zRc (zc @hltI (zc @hd (zc @A0d (zc @A1P (zc @hl1 Qw6))))) (zc hH (zc c1 (zc c2 (zc c3 (zc c4 Qw6))))) @A1c ?_;rw [<-hs1];refine ⟨k+1,A0r.headF 2 43 [1,2,5,6,7] (zc @hT2 (zc @hY2 Qw6)) zW,?_,?_⟩
     ·exact hlt
     ·omega
    ·rw [decide_eq_false hm] at c2;rw [if_neg hm] at c4;generalize hT2:tl (k+1)=T2 at*;generalize tl k=T at*;generalize hY2:tn (k+1)=y at*;generalize tn k=x at*;refine zRc (zc @hltI (zc @hd (zc @A0d (zc @A1P (zc @hl1 Qw6))))) (zc hH (zc c1 (zc c2 (zc c3 (zc c4 Qw6))))) @A1c ?_;rw [<-hs1];refine ⟨k+1,A0r.headF 2 43 [1,2,5,6,7] (zc @hT2 (zc @hY2 Qw6)) zW,?_,?_⟩
     ·exact hlt
     ·omega
   ·have ek:k=2*L.length:=by omega
    have hnl: ¬((k:Int)<2*(L.length:Int)):=by omega
    subst ek;refine zR (zc @hnl Qw6) (zc hH Qw6) Qw6 ?_;simp [A0y,A0x,Blk.cells,ty,Tryz.results55,A0s,A0u,toT,A0e,A0b,A0c,A0a,A0m]
theorem B2b {r:R} {t:List Int} {k:Nat} {ts:List TVal} (h:(A9c r t)[k]? =some ts):k<2*(endsL r.es).length∧ts=[A0k (tourN r t k:Nat),A0k (gR (endsL r.es) (tourN r t k):Nat)]:=by
 have hk:=(Qx.1 h).1;rw [A6p] at hk;rw [B1V hk] at h;exact ⟨hk,(Vx h).symm⟩
theorem B2c (r:R) (t:List Int):ACall Tryz.prog 53 [tR r,A0m t] (.t (.fn 99 [.rptr [.int .i64 r.n,.slice (A0f r.es),.slice (A07 r.ar)],.rptr [.slice (A0o t)]])):=by
 obtain ⟨n,es,ar⟩:=r;refine ACall.of_body Tryz.func53 rfl (by kernel_rfl) ?_;simp only [entry,Tryz.ntmps53,tR,A0m];refine zU ?_;refine zR Qw6 Qw6 Qw6 ?_;simp [A0y,A0x,Blk.cells,ty,Tryz.results53,A0s,A0u,toT,A0e,A0b,A0c,A0a]
theorem B2d (r:R) (t:List Int) (hs:RSm r) (htl:t.length<2^40):ACall Tryz.prog 12 [tR r,A0m t] (.tup [A0m (if A5e r t≠0 then [] else tourL r t (2*(endsL r.es).length)),A0k (A5e r t)]):=by
 have hg:=A8M r t hs htl;by_cases h0:A5e r t=0
 ·rw [if_neg (by omega),h0];rw [h0] at hg;have hT:=(A3Q h0).1;have hw:=B2c r t;have hIt:=B40 r t hs hT htl;have hinv:=fun k ts h=>B2b (r:=r) (t:=t) (k:=k) (ts:=ts) h;have hsu:=A9R r t;have hll:=A6q r t;have hil:=A6p r t;have hlen:(endsL r.es).length≤2000:=A1t (g:=r.g) hs.es hT.ok.c;have hz:A0o (tourL r t 0)=[]:=rfl;clear hT h0;generalize A9c r t=xs at*;generalize tourL r t=tl at*;generalize tourN r t=tn at*;obtain ⟨n,es,ar⟩:=r;simp only at*;generalize endsL es=L at*;refine ACall.of_body Tryz.func12 rfl (by kernel_rfl) ?_;simp only [entry,Tryz.ntmps12,tR];refine zU ?_;refine zR Qw6 (zc hg (zc hw Qw6)) Qw6 ?_;refine AWp.weak (A0r.openB 1 0 1 rfl rfl (by omega)) ?_;simp only [List.set_cons_succ,List.set_cons_zero,List.length_cons,List.length_nil,Xv,Nat.reduceAdd,List.cons_append,List.nil_append];refine AWp.weak (A0r.head (m:=3) (by omega) ((fun t f=>[f,t,t,f,f,f,f,t,f,f,f,f,f,f,f,f,f,t,f,f,f,f,f,f,f]) true false) (by first | rfl | simp [mask]) (by first | rfl | simp) (by (repeat' (first | exact A0n _ | refine A0i ?_ ?_ | refine A0g ?_ ?_ | exact A0h _ | exact Qw4 | (show _<_; omega) | (intro c hc; cases hc; done) | (intro c hc; simp only [Qw,Qk,or_false] at hc; subst hc; first | exact Qw4 | (show _<_; omega)) | (intro c hc; simp only [Qw,Qk,or_false] at hc; rcases hc with rfl | rfl<;>first | exact Qw4 | (show _<_; omega))))) (by (repeat' (first | exact A0n _ | exact A0v _ | exact A0h _ | refine Qw5 ?_ ?_ | refine A0i ?_ ?_ | refine A0l ?_ ?_ | refine A0g ?_ ?_ | exact Qw4 | (show _<_; omega) | exact A0p (fun _=>Qw4) | (intro c hc; cases hc; done) | (intro c hc; simp only [Qw,Qk,or_false] at hc; subst hc; first | exact Qw4 | (show _<_; omega)) | (intro c hc; simp only [Qw,Qk,or_false] at hc; rcases hc with rfl | rfl<;>first | exact Qw4 | (show _<_; omega)))))) (AWp.rangeFunc (fun k H=>H=[.box [.int .i64 n,.slice (A0f es) .none,.slice (A07 ar) .none],.box [.slice (A0o (tl k)) (.chain 2)],.chain k 1]∧(True)) (fun _ _=>False) 3 rfl (hIt) (fun k ts hts=>by obtain ⟨_,rfl⟩:=hinv _ _ hts; rfl) (by omega) (by (repeat' (first | exact A0n _ | refine A0i ?_ ?_ | refine A0g ?_ ?_ | exact A0h _ | exact Qw4 | (show _<_; omega) | (intro c hc; cases hc; done) | (intro c hc; simp only [Qw,Qk,or_false] at hc; subst hc; first | exact Qw4 | (show _<_; omega)) | (intro c hc; simp only [Qw,Qk,or_false] at hc; rcases hc with rfl | rfl<;>first | exact Qw4 | (show _<_; omega))))) (by rintro _ _ ⟨rfl,-⟩; simp) (fun _ _ h=>h.elim) ?_ (fun l k ts H hts hI=> ?_) (fun H hI=> ?_) (fun e H h=>h.elim))
  ·exact ⟨by rw [hz]; rfl,trivial⟩
  ·obtain ⟨rfl,-⟩:=hI;obtain ⟨hk,rfl⟩:=hinv _ _ hts;have hs1:=hsu k;have hl1:=hll k;generalize hT2:tl (k+1)=T2 at*;generalize tl k=T at*;simp only [mask,A3Y,List.zip_cons_cons,Wy,List.zip_nil_left,List.foldl_cons,List.foldl_nil,List.set_cons_succ,List.set_cons_zero,ofT,A2A,A04,Xy,XV,ofT,A2A,toT,A0u,A0a,A0k,A01,A2W,tG,A0C,A0m,A1i];refine zRc (zc @A0d (zc @A1P (zc @hl1 Qw6))) Qw6 @A1c ?_;rw [<-hs1];refine ⟨⟨_,_⟩,A0r.head2 (m:=3) (by decide) ((fun t f=>[f,f,f,f,f,f,f,f,f,f,f,f,f,f,f,f,f,f,f,f,f,f,f,f,f]) true false) rfl rfl zW,?_,?_⟩
   ·rw [hT2]; rfl
   ·trivial
  ·obtain ⟨rfl,-⟩:=hI;rw [hil];simp only [mask];refine zR Qw6 Qw6 Qw6 ?_;simp [A0y,A0x,Blk.cells,ty,Tryz.results12,A0s,A0u,toT,A0e,A0b,A0c,A0a,A0k,A0m]
 ·rw [if_pos h0];generalize A5e r t=e at*;obtain ⟨n,es,ar⟩:=r;refine ACall.of_body Tryz.func12 rfl (by kernel_rfl) ?_;simp only [entry,Tryz.ntmps12,tR];refine zU ?_;refine zR (zc @h0 Qw6) (zc hg Qw6) Qw6 ?_;simp [A0y,A0x,Blk.cells,ty,Tryz.results12,A0s,A0u,toT,A0e,A0b,A0c,A0a,A0k,A0m,A0o]
theorem B5S (r:R) (t:List Int) (hs:RSm r) (htl:t.length≤40):ACall Tryz.prog 13 [tR r,A0m t] (.tup [A0m (if A5e r t≠0 then [] else tourL r t (2*(endsL r.es).length)),A0k (A5e r t)]):=by
 have hg:=A9S r t hs htl;by_cases h0:A5e r t=0
 ·rw [if_neg (by omega),h0];rw [h0] at hg;have hw:=B2a r t hs (A3Q h0).1 (by omega);generalize tourL r t (2*(endsL r.es).length)=T at*;obtain ⟨n,es,ar⟩:=r;refine ACall.of_body Tryz.func13 rfl (by kernel_rfl) ?_;simp only [entry,Tryz.ntmps13,tR];refine zU ?_;refine zR Qw6 (zc hg (zc hw Qw6)) Qw6 ?_;simp [A0y,A0x,Blk.cells,ty,Tryz.results13,A0s,A0u,toT,A0e,A0b,A0c,A0a,A0k,A0m]
 ·rw [if_pos h0];generalize A5e r t=e at*;obtain ⟨n,es,ar⟩:=r;refine ACall.of_body Tryz.func13 rfl (by kernel_rfl) ?_;simp only [entry,Tryz.ntmps13,tR];refine zU ?_;refine zR (zc @h0 Qw6) (zc hg Qw6) Qw6 ?_;simp [A0y,A0x,Blk.cells,ty,Tryz.results13,A0s,A0u,toT,A0e,A0b,A0c,A0a,A0k,A0m,A0o]
def B3z (p:Nat->Bool):Nat->Nat
 | 0=>0
 | n+1=>(if p n=true then 2^n else 0)+B3z p n
theorem B44 (p:Nat->Bool): ∀n,B3z p n<2^n
 | 0=>by simp [B3z]
 | n+1=>by
  have:=B44 p n;unfold B3z;rw [Nat.pow_succ];split<;>omega
theorem B2e (w v:Nat):B8F w v=1↔w.testBit v=true:=by
 unfold B8F;rw [Nat.testBit_eq_decide_div_mod_eq,decide_eq_true_eq]
theorem A6Q (p:Nat->Bool): ∀n v,v<n->(B3z p n).testBit v=p v
 | 0,v,h=>by omega
 | n+1,v,h=>by
  have hl:=B44 p n;unfold B3z;by_cases e:v=n
  ·subst e;cases hp:p v with
   | true=>rw [if_pos rfl,Nat.testBit_two_pow_add_eq,Qj6 hl]; rfl
   | false=>rw [if_neg (by simp),Xk,Qj6 hl]
  ·have ih:=A6Q p n v (by omega);split
   ·rw [Nat.testBit_two_pow_add_gt (by omega),ih]
   ·rw [Xk,ih]
structure MinC (g:G) (n:Nat) (w:Nat):Prop where
 c:checkG g=0
 n':g.n=n
 n2:2≤n
 odd:w%2=1
 lt:w<2^n-1
 eq:connW n g.es (2^n-1)=(cutW w g.es,setN n w)
 mn: ∀w',w'%2=1->w'<2^n-1->cutW w g.es≤cutW w' g.es
section
variable {g:G} {n w:Nat}
end
end Go.Proofs.YtdbdfkohpjefjaaGreat
