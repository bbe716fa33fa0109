/- A part of the proof. -/
import Derived.Test.YtdbdfkohpjefjaaGreatPart13
import Derived.Test.YtdbdfkohpjefjaaGreatPart14
import Derived.Test.YtdbdfkohpjefjaaGreatPart15
set_option linter.all false
set_option maxHeartbeats 4000000
set_option maxRecDepth 100000
namespace Go.Proofs.YtdbdfkohpjefjaaGreat
open Go.Sp
open Classical in
def A97 {N n:Nat} (g:Nat->Nat) (hr: ∀x,x<N->g x<n) (hs: ∀v,v<n-> ∃x,x<N∧g x=v):ncls N (fun x y=>g x=g y)=n:=by
 unfold ncls;generalize hl:List.filter _ (List.range N)=l;have hmem: ∀h,h∈l↔h<N∧ ∀y,y<N->g h=g y->h≤y:=fun h=>by rw [<-hl]; simp
 have hnd:l.Nodup:=by rw [<-hl]; exact List.nodup_range.filter _
 have hinj: ∀a b,a∈l->b∈l->g a=g b->a=b:=fun a b ha hb e=>by
  have h1:=(hmem a).1 ha;have h2:=(hmem b).1 hb;have:=h1.2 b h2.1 e;have:=h2.2 a h1.1 e.symm;omega
 have hnd2:(l.map g).Nodup:=by
  rw [List.Nodup,JQ];exact List.Pairwise.imp_of_mem (fun {a b} ha hb hne e=>hne (hinj a b ha hb e)) hnd
 have h1:=YZ hnd2 (l₂:=List.range n) (fun v hv=>by
  obtain ⟨x,hx,rfl⟩:=QY.1 hv
  exact Xk.2 (hr x ((hmem x).1 hx).1))
 have h2:=YZ (Qx1 (n:=n)) (l₂:=l.map g) (fun v hv=>by
  obtain ⟨x,hx,e⟩:=hs v (Xk.1 hv);obtain ⟨m,m1,⟨m2,m3⟩,m4⟩:=A8n (P:=fun y=>y<N∧g y=v) ⟨hx,e⟩
  exact QY.2 ⟨m,(hmem m).2 ⟨m2,fun y hy he=>m4 y ⟨hy,by rw [<-he,m3]⟩⟩,m3⟩)
 simp at h1 h2;omega
def A5e {l:List (Int×Int)} {a b:Nat} {x y:Nat}:Conn (l++[((a:Int),(b:Int))]) x y↔Conn l x y∨(Conn l a x∨Conn l b x)∧(Conn l a y∨Conn l b y):=by
 constructor
 ·intro h
  induction h with
  | refl=>exact .inl .refl
  | @step u w _ hs ih=>
   have hor:(((u:Int),(w:Int))∈l∨((w:Int),(u:Int))∈l)∨(u=a∧w=b)∨(u=b∧w=a):=by
    rcases hs with h | h<;>rcases XZ.1 h with h | h
    ·exact .inl (.inl h)
    ·simp at h; exact .inr (.inl ⟨by omega,by omega⟩)
    ·exact .inl (.inr h)
    ·simp at h; exact .inr (.inr ⟨by omega,by omega⟩)
   rcases hor with h | ⟨rfl,rfl⟩ | ⟨rfl,rfl⟩
   ·rcases ih with ih | ⟨i1,i2⟩
    ·exact .inl (ih.step h)
    ·exact .inr ⟨i1,i2.imp (fun q=>q.step h) (fun q=>q.step h)⟩
   ·rcases ih with ih | ⟨i1,i2⟩
    ·exact .inr ⟨.inl ih.symm,.inr .refl⟩
    ·exact .inr ⟨i1,.inr .refl⟩
   ·rcases ih with ih | ⟨i1,i2⟩
    ·exact .inr ⟨.inr ih.symm,.inl .refl⟩
    ·exact .inr ⟨i1,.inl .refl⟩
 ·have hm: ∀{u w},Conn l u w->Conn (l++[((a:Int),(b:Int))]) u w:=fun h=>h.mono fun p hp=>Qx7 _ hp;have hab:Conn (l++[((a:Int),(b:Int))]) a b:= .one (.inl (by simp));rintro (h | ⟨h1,h2⟩)
  ·exact hm h
  ·rcases h1 with h1 | h1<;>rcases h2 with h2 | h2
   ·exact (hm h1).symm.trans (hm h2)
   ·exact (hm h1).symm.trans (hab.trans (hm h2))
   ·exact (hm h1).symm.trans (hab.symm.trans (hm h2))
   ·exact (hm h1).symm.trans (hm h2)
def A58 (N:Nat) (l:List (Int×Int)):Eqv N (Conn l):=⟨fun _ _=> .refl,fun _ _ _ _ h=>h.symm,fun _ _ _ _ _ _ h1 h2=>h1.trans h2⟩
open Classical in
def B7B {g:G} {n:Nat} (hc:checkG g=0) (hn:g.n=n):A2o g.es n n=ncls n (Conn (endsL g.es)):=by
 have h12:=(A0h.1 hc).1;have h1:=A6a hc hn n (Qk _);rw [B1I] at h1;have h2:A2o g.es n n=((List.range n).filter fun v=>decide ((genS (endsL g.es)).1[v]? =some v)).length:=by omega
 rw [h2];unfold ncls;congr 1;refine Qw4 fun v hv=> ?_;have hv':=Xk.1 hv;have hin:B94 (endsL g.es):=fun p hp=>by have:=A1V hc hn p hp; omega
 rw [decide_eq_decide,A3Z hin (by omega)];constructor
 ·intro H y hy hcn;exact Nat.le_of_not_lt fun hlt=>H ⟨y,hlt,hcn.symm⟩
 ·rintro H ⟨u,hu,hcn⟩;have:=H u (by omega) hcn.symm;omega
structure Emb (E n:Nat) (L:List (Int×Int)) (s:Nat->Nat) (g:Nat->Nat):Prop where
 len:L.length=E
 perm:PermN (2*E) s
 lt: ∀x,x<2*E->g x<n
 ends: ∀k,k<E->L[k]? =some (((g (2*k):Nat):Int),((g (2*k+1):Nat):Int))
 keep: ∀x,x<2*E->g (s x)=g x
section
variable {E n:Nat} {L:List (Int×Int)} {s g:Nat->Nat}
end
def B6c {l:List Int} (hn:l.Nodup) {s:Nat->Nat} (hs: ∀x:Nat,(x:Int)∈l->((s x:Nat):Int)=A9l l (x:Int)) {x:Nat} (hx:(x:Int)∈l): ∀k,l[(l.idxOf (x:Int)+k)%l.length]? =some ((it s k x:Nat):Int)
 | 0=>by
  obtain ⟨h1,h2⟩:=A3A hx;rw [Nat.add_zero,Vw h1,h2]; rfl
 | k+1=>by
  have ih:=B6c hn hs hx k;obtain ⟨h1,h2⟩:=A3A hx;have hm:=Qv ih;have hnx:=hs _ hm;unfold A9l at hnx;rw [C4b hn ih] at hnx;have hlt:((l.idxOf (x:Int)+k)%l.length+1)%l.length<l.length:=VZ _ (by omega);have e:((l.idxOf (x:Int)+k)%l.length+1)%l.length=(l.idxOf (x:Int)+(k+1))%l.length:=by rw [Nat.mod_add_mod]; rfl
  rw [e] at hnx hlt;rw [Qz,Qq hlt,Option.getD_some] at hnx;rw [Qq hlt];show _=some (((s (it s k x)):Nat):Int);rw [hnx]
def C5r {l:List Int} (hn:l.Nodup) {s:Nat->Nat} (hs: ∀x:Nat,(x:Int)∈l->((s x:Nat):Int)=A9l l (x:Int)) {x y:Nat} (hx:(x:Int)∈l) (hy:(y:Int)∈l):A3M s x y:=by
 obtain ⟨h1,h2⟩:=A3A hx;obtain ⟨h3,h4⟩:=A3A hy;refine ⟨l.idxOf (y:Int)+(l.length-l.idxOf (x:Int)),?_⟩;have h5:=B6c hn hs hx (l.idxOf (y:Int)+(l.length-l.idxOf (x:Int)));rw [show l.idxOf (x:Int)+(l.idxOf (y:Int)+(l.length-l.idxOf (x:Int)))=l.idxOf (y:Int)+l.length by omega,Nat.add_mod_right,Vw h3,h4] at h5;have:=JX h5;omega
def A4u (n:Nat):ncls n (Conn [])=n:=by
 have:=A97 (N:=n) (n:=n) (fun x=>x) (fun x hx=>hx) (fun v hv=>⟨v,hv,rfl⟩);rw [<-A2v (R:=Conn []) (S:=fun x y=>x=y) fun x y _ _=> ?_] at this
 ·exact this
 ·constructor
  ·intro hc;cases hc with
   | refl=>rfl
   | step _ hs=>simp at hs
  ·rintro rfl; exact .refl
open Classical in
def A6G {N:Nat} {R:Nat->Nat->Prop} (hR:Eqv N R) (h:ncls N R=1) {x y:Nat} (hx:x<N) (hy:y<N):R x y:=by
 unfold ncls at h;generalize hl:List.filter _ (List.range N)=l at h;have hmem: ∀h,h∈l↔h<N∧ ∀y,y<N->R h y->h≤y:=fun h=>by rw [<-hl]; simp
 have lead: ∀x,x<N-> ∃m,m<N∧R x m∧m∈l:=fun x hx=>by
  obtain ⟨m,m1,⟨m2,m3⟩,m4⟩:=A8n (P:=fun y=>y<N∧R x y) ⟨hx,hR.refl x hx⟩;exact ⟨m,m2,m3,(hmem m).2 ⟨m2,fun y hy hr=>m4 y ⟨hy,hR.trans x m y hx m2 hy m3 hr⟩⟩⟩
 obtain ⟨a,a1,a2,a3⟩:=lead x hx;obtain ⟨b,b1,b2,b3⟩:=lead y hy;obtain ⟨c,rfl⟩: ∃c,l=[c]:=List.length_eq_one_iff.1 h;have e:a=b:=by simp at a3 b3; rw [a3,b3]
 subst e;exact hR.trans x a y hx a1 hy a2 (hR.symm y a hy a1 b2)
def sR (L:List (Int×Int)) (ar:List (List Int)) (x:Nat):Nat:=(nextR L ar x).toNat
def gR (L:List (Int×Int)) (x:Nat):Nat:=(atL L x).toNat
def A2C {r:R} (hr:ROk r):Emb (endsL r.es).length r.n.toNat (endsL r.es) (sR (endsL r.es) r.ar) (gR (endsL r.es)):=by
 refine ⟨rfl,⟨fun x hx=> ?_,fun x y hx hy e=> ?_⟩,fun x hx=> ?_,fun k hk=> ?_,fun x hx=> ?_⟩
 ·have:=hr.next hx; unfold sR; omega
 ·have h1:=hr.next hx;have h2:=hr.next hy;unfold sR at e;exact hr.next_inj hx hy (by omega)
 ·have:=A1H hr.c hx; unfold gR; omega
 ·have h1:=A1H hr.c (show 2*k<2*(endsL r.es).length by omega);have h2:=A1H hr.c (show 2*k+1<2*(endsL r.es).length by omega);have e:=Qq hk;have a1:atL (endsL r.es) (2*k)=(endsL r.es)[k].1:=by
   unfold atL; rw [if_pos (by omega),show 2*k / 2=k by omega,Qz,e]; rfl
  have a2:atL (endsL r.es) (2*k+1)=(endsL r.es)[k].2:=by
   unfold atL; rw [if_neg (by omega),show (2*k+1) / 2=k by omega,Qz,e]; rfl
  rw [e];congr 1;refine Prod.ext ?_ ?_
  ·show _=(((atL (endsL r.es) (2*k)).toNat:Nat):Int); rw [<-a1]; omega
  ·show _=(((atL (endsL r.es) (2*k+1)).toNat:Nat):Int); rw [<-a2]; omega
 ·show (atL (endsL r.es) (sR (endsL r.es) r.ar x)).toNat=(atL (endsL r.es) x).toNat;unfold sR;rw [(hr.next hx).2.2]
structure TF (F:List Nat) (rt dp:Nat->Nat):Prop where
 len:F.length=12
 lt: ∀i (h:i<F.length),F[i]<12
 same: ∀i (h:i<F.length),rt F[i]=rt i
 self: ∀i (h:i<F.length),F[i]=i->rt i=i
 down: ∀i (h:i<F.length),F[i]≠i->dp F[i]<dp i
 rlt: ∀i,i<12->rt i<12
 fix: ∀i,i<12->F[rt i]? =some (rt i)
def TF.zero:TF (List.range 12) (fun v=>v) (fun _=>0):=
 ⟨by simp,fun i h=>by simpa using h,fun i h=>by simp,fun i h _=>rfl,fun i h e=>absurd (by simp) e,fun i h=>h,fun i h=>by simp [h]⟩
section
variable {F:List Nat} {rt dp:Nat->Nat}
def TF.idem (h:TF F rt dp) {i:Nat} (hi:i<12):rt (rt i)=rt i:=by
 have hf:=h.fix i hi;obtain ⟨q1,q2⟩:=Qx.1 hf;exact h.self _ q1 q2
def TF.join (h:TF F rt dp) {a b:Nat} (ha:a<12) (hb:b<12) (hne:rt a≠rt b):
  TF (F.set (rt a) (rt b)) (fun v=>if rt v=rt a then rt b else rt v) (fun v=>if rt v=rt a then dp v+dp (rt b)+1 else dp v):=by
 have ra:=h.rlt a ha;have rb:=h.rlt b hb;have ia:=h.idem ha;have ib:=h.idem hb;have fa:=h.fix a ha;have fb:=h.fix b hb;have hl:=h.len;refine ⟨by rw [Yz]; exact hl,fun i hi=> ?_,fun i hi=> ?_,fun i hi e=> ?_,fun i hi e=> ?_,fun i hi=> ?_,fun i hi=> ?_⟩
 ·rw [Qz5]; split
  ·exact rb
  ·exact h.lt i (by simpa using hi)
 ·have hi':i<F.length:=by simpa using hi
  rw [Qz5];by_cases e:rt a=i
  ·rw [if_pos e];subst e;simp only [ia,ib,if_true];rw [if_neg (fun e=>hne e.symm)]
  ·rw [if_neg e];simp only [h.same i hi']
 ·have hi':i<F.length:=by simpa using hi
  rw [Qz5] at e;by_cases e2:rt a=i
  ·rw [if_pos e2] at e; exact absurd (e2.trans e.symm) hne
  ·rw [if_neg e2] at e;have:=h.self i hi' e;simp only [this];rw [if_neg (fun e=>e2 e.symm)]
 ·have hi':i<F.length:=by simpa using hi
  rw [Qz5] at e ⊢;by_cases e2:rt a=i
  ·subst e2;simp only [if_true,ia,ib];rw [if_neg (fun e=>hne e.symm)];omega
  ·rw [if_neg e2] at e ⊢;have hs:=h.same i hi';have hd:=h.down i hi' e;simp only [hs];split<;>omega
 ·split
  ·exact rb
  ·exact h.rlt i hi
 ·by_cases e:rt i=rt a
  ·rw [if_pos e,Qy hne]; exact fb
  ·rw [if_neg e,Qy (fun x=>e x.symm)]; exact h.fix i hi
def TF.stay (h:TF F rt dp) {a b:Nat} (ha:a<12) (e:rt a=rt b):F.set (rt a) (rt b)=F:=by
 have fa:=h.fix a ha;obtain ⟨q1,q2⟩:=Qx.1 fa;apply Zq;intro i;by_cases hi:rt a=i
 ·subst hi; rw [QX q1,fa,e]
 ·rw [Qy hi]
end
structure TC (L:List (Int×Int)) (F:List Nat) (rt dp:Nat->Nat):Prop where
 tf:TF F rt dp
 conn: ∀u w,u<12->w<12->(rt u=rt w↔Conn L u w)
def TCe (L:List (Int×Int)) (F:List Nat):Prop:= ∃rt dp,TC L F rt dp
def A6H {u w:Nat}:Conn [] u w↔u=w:=by
 constructor
 ·intro h;cases h with
  | refl=>rfl
  | step _ hs=>simp at hs
 ·rintro rfl; exact .refl
def TCe.zero:TCe [] (List.range 12):=⟨_,_,TF.zero,fun u w _ _=>A6H.symm⟩
variable {F:List Nat}
def TC.snoc {L:List (Int×Int)} {rt dp:Nat->Nat} (h:TC L F rt dp) {a b:Nat} (ha:a<12) (hb:b<12):TCe (L++[((a:Int),(b:Int))]) (F.set (rt a) (rt b)):=by
 obtain ⟨tf,cn⟩:=h;by_cases e:rt a=rt b
 ·rw [tf.stay ha e];refine ⟨rt,dp,tf,fun u w hu hw=> ?_⟩;have hc:=(cn a b ha hb).1 e;rw [A5e,cn u w hu hw];constructor
  ·exact .inl
  ·rintro (q | ⟨q1,q2⟩)
   ·exact q
   ·rcases q1 with q1 | q1<;>rcases q2 with q2 | q2
    ·exact q1.symm.trans q2
    ·exact q1.symm.trans (hc.trans q2)
    ·exact q1.symm.trans (hc.symm.trans q2)
    ·exact q1.symm.trans q2
 ·refine ⟨_,_,tf.join ha hb e,fun u w hu hw=> ?_⟩;rw [A5e];have c1:=cn u w hu hw;have c2:=cn a u ha hu;have c3:=cn b u hb hu;have c4:=cn a w ha hw;have c5:=cn b w hb hw;rw [<-c1,<-c2,<-c3,<-c4,<-c5];generalize rt u=p at*;generalize rt w=q at*;generalize rt a=c at*;generalize rt b=d at*;by_cases x:p=c<;>by_cases y:q=c
  ·rw [if_pos x,if_pos y]; omega
  ·rw [if_pos x,if_neg y]; omega
  ·rw [if_neg x,if_pos y]; omega
  ·rw [if_neg x,if_neg y]; omega
def acyc (M:List (Int×Int)):Prop:= ∀k p,M[k]? =some p-> ¬Conn (M.take k) p.1.toNat p.2.toNat
variable {M:List (Int×Int)}
def A2D {p:Int×Int}:acyc (M++[p])↔acyc M∧ ¬Conn M p.1.toNat p.2.toNat:=by
 constructor
 ·intro h;refine ⟨fun k q hq=> ?_,?_⟩
  ·have hk:=(Qx.1 hq).1;have:=h k q (by rw [Qw hk]; exact hq);rwa [ZZ (by omega)] at this
  ·have:=h M.length p (by rw [QW (by omega)]; simp);rwa [ZZ (by omega),Zz] at this
 ·rintro ⟨h1,h2⟩ k q hq;rw [List.getElem?_append] at hq;split at hq
  ·rename_i hk;rw [ZZ (by omega)];exact h1 k q hq
  ·have hk:k=M.length:=by
    have:=(Qx.1 hq).1;simp at this; omega
   subst hk;simp at hq; subst hq;rw [ZZ (by omega),Zz];exact h2
def A2P:acyc []:=fun k p h=>by simp at h
def A3F {n:Nat} {M:List (Int×Int)} {a b:Nat} (h:Conn M a b):ncls n (Conn (M++[((a:Int),(b:Int))]))=ncls n (Conn M):=A2v fun x y _ _=>by
 rw [A5e];constructor
 ·rintro (q | ⟨q1,q2⟩)
  ·exact q
  ·rcases q1 with q1 | q1<;>rcases q2 with q2 | q2
   ·exact q1.symm.trans q2
   ·exact q1.symm.trans (h.trans q2)
   ·exact q1.symm.trans (h.symm.trans q2)
   ·exact q1.symm.trans q2
 ·exact .inl
def A2Q {n:Nat} {M:List (Int×Int)} {a b:Nat} (ha:a<n) (hb:b<n) (h: ¬Conn M a b):ncls n (Conn (M++[((a:Int),(b:Int))]))+1=ncls n (Conn M):=
 B8X (A58 n M) ha hb h fun x y _ _=>A5e
open Classical in
def C3f {n:Nat} {R:Nat->Nat->Prop} (h:0<n):1≤ncls n R:=by
 unfold ncls;exact List.length_pos_of_mem (ZV.2 ⟨Xk.2 h,decide_eq_true fun y _ _=>Xj _⟩)
def InN (n:Nat) (M:List (Int×Int)):Prop:= ∀p,p∈M->(0≤p.1∧p.1<n)∧(0≤p.2∧p.2<n)
def A4v {n:Nat} (M:List (Int×Int)) (h:InN n M):n≤ncls n (Conn M)+M.length∧(acyc M↔ncls n (Conn M)+M.length=n):=by
 revert h;refine A3B (P:=fun M=>InN n M->n≤ncls n (Conn M)+M.length∧(acyc M↔ncls n (Conn M)+M.length=n)) ?_ ?_ M
 ·intro _;rw [A4u];exact ⟨Qk _,fun _=>rfl,fun _=>A2P⟩
 ·intro M p ih h;obtain ⟨i1,i2⟩:=ih fun q hq=>h q (by simp [hq]);have hp:=h p (by simp);obtain ⟨p1,p2⟩:=p;obtain ⟨a,rfl⟩:=Zx hp.1.1;obtain ⟨b,rfl⟩:=Zx hp.2.1;have ha:a<n:=by have:=hp.1.2; simp only at this; omega
  have hb:b<n:=by have:=hp.2.2; simp only at this; omega
  rw [A2D,Xv,List.length_singleton,i2];show _∧(_∧ ¬Conn M a b↔_);by_cases hc:Conn M a b
  ·have e:ncls n (Conn (M++[(((a:Nat):Int),((b:Nat):Int))]))=_:=A3F hc;rw [e];exact ⟨by omega,fun ⟨_,q⟩=>absurd hc q,fun q=>by omega⟩
  ·have e:ncls n (Conn (M++[(((a:Nat):Int),((b:Nat):Int))]))+1=_:=A2Q ha hb hc;exact ⟨by omega,fun ⟨q,_⟩=>by omega,fun q=>⟨by omega,hc⟩⟩
def pkL (L:List (Int×Int)) (t:List Int):List (Int×Int):=t.map fun x=>L.getD x.toNat (0,0)
def A2z (L:List (Int×Int)) (t:List Int):(pkL L t).length=t.length:=by simp [pkL]
def A98 {n:Nat} {L:List (Int×Int)} {t:List Int} (hL:InN n L) (ht: ∀x,x∈t->0≤x∧x<L.length):InN n (pkL L t):=fun p hp=>by
 obtain ⟨x,hx,rfl⟩:=QY.1 hp;have:=ht x hx;rw [Qz,Qq (by omega)];exact hL _ (Xw _)
open Classical in
noncomputable def treeB (n:Nat) (L:List (Int×Int)) (t:List Int):Bool:=decide ((t.length:Int)=n-1∧ncls n (Conn (pkL L t))=1)
def B7C {n:Nat} (h0:0<n) {L:List (Int×Int)} {t:List Int} (hL:InN n L) (ht: ∀x,x∈t->0≤x∧x<L.length):treeB n L t=true↔acyc (pkL L t)∧(t.length:Int)=n-1:=by
 unfold treeB;rw [decide_eq_true_eq,(A4v _ (A98 hL ht)).2,A2z];omega
def A76 {n:Int}: ∀{p:Option Int} {l:List Int},A49 n p l=0-> ∀x,x∈l->0≤x∧x<n
 | _,[],_,x,hx=>by cases hx
 | p,v::l,h,x,hx=>by
  rw [A49] at h;by_cases hv:0≤v∧v<n
  ·rw [if_neg (by omega)] at h;split at h
   ·omega
   ·rcases QV.1 hx with rfl | hx
    ·exact hv
    ·exact A76 h x hx
  ·rw [if_pos hv] at h; omega
noncomputable def A8e (g:G) (t:List Int):Int:=
 if A0m g≠0 then A0m g else if A49 (endsL g.es).length none t≠0 then A49 (endsL g.es).length none t
 else if (t.length:Int)≠g.n-1 then 8 else if treeB g.n.toNat (endsL g.es) t=true then 0 else 3
def A99:ACall Tryz.prog 123 [] (tF (List.range 12)):=by
 refine ACall.of_body Tryz.func123 rfl (by kernel_rfl) ?_;simp only [entry,Tryz.ntmps123];refine zU ?_;refine zR Qv5 Qv5 Qv5 ?_;refine AWp.loopS (α:=Nat) 11 (fun i=>[(0,.c (.ptr 0 0)),(1,.c (.ptr 1 0)),(3,.c (.int .i64 (i:Int)))]) (fun i=>[.box (fC (List.replicate 12 0)),.box (fC (A7w i))]) (fun i=>i≤12) (fun i=>12-i) (0) (hk:=Weak.headL 2 11 [0,1,3] (zWs @A1s)) (h0:=?_) (round:=fun i hI=>?_)
 ·exact Xj _
 ·by_cases hlt:i<12
  ·have hset:=A9p hlt;have hlen:=A9q hI;generalize A7w i=F at*;refine zR (zc @A0W (zc @hlen (zc @A9o (zc @A5Z (zc @hset Qv5))))) Qv5 Qv5 ?_;refine ⟨i+1,Weak.headN 2 11 [0,1,3] (zWs @A1s),?_,?_⟩
   ·exact hlt
   ·omega
  ·have ei:i=12:=by omega
   subst ei;rw [B1D];have hl:(List.range 12).length=12:=Vy;generalize List.range 12=F at*;have ht:(fC F).take 12=fC F:=Zw (by rw [A0W,hl]; exact Qk _);have hs:=A3C (List.replicate 12 0) F (by simp [hl]);have hlr:(List.replicate 12 0:List Nat).length=12:=by simp
   generalize List.replicate 12 0=Z at*;refine zR (zc @A0W (zc @hl (zc @hlr (zc @ht (zc @hs (zc @A4r Qv5)))))) Qv5 Qv5 ?_;have hm:=A6C [Blk.box (fC F),Blk.box (fC F)] F;simp [A0s,A0r,Blk.cells,ty,Tryz.results123,A0o,A0p,toT,A0d,A0b,A0c,A0a,hm,hl,ht,A0W,tF]
def C3g {rt dp:Nat->Nat} (h:TF F rt dp) (v:Nat) (hv:v<12):ACall Tryz.prog 166 [.t (.rptr (fT F)),A0j v] (A0j (rt v)):=by
 have hF:=h.len;refine ACall.of_body Tryz.func166 rfl (by kernel_rfl) ?_;simp only [entry,Tryz.ntmps166,A0j];refine zU ?_;refine zR Qv5 Qv5 Qv5 ?_;refine AWp.loopS (α:=Nat) 18 (fun u=>[(0,.c (.rptr (fT F))),(1,.c (.int .i64 (u:Int)))]) (fun u=>[]) (fun u=>u<12∧rt v=rt u) (fun u=>dp u) (v) (hk:=Weak.headL 0 18 [0,1] (zWs @A1s)) (h0:=?_) (round:=fun u hI=>?_)
 ·exact ⟨hv,rfl⟩
 ·obtain ⟨hu,hx⟩:=hI;have hul:u<F.length:=by omega
  have e1:=B4z hul;have e2:=h.same u hul;have e3:=h.lt u hul;have e4:=h.self u hul;have e5:=h.down u hul;refine zM Qv5 (zc @e1 Qv5) Qv5 Qv5 Qv5 (zc (ed fun hp hpc=>?_) (ed fun hp hpc=>?_))
  ·have hne:F[u]≠u:=by omega
   refine ⟨F[u],Weak.headN 0 18 [0,1] (zWs @A1s),?_,?_⟩
   ·exact ⟨e3,by rw [hx,e2]⟩
   ·exact e5 hne
  ·have e:rt v=u:=by rw [hx]; exact e4 (by omega)
   simp [A0s,A0r,Blk.cells,ty,Tryz.results166,A0o,A0p,toT,A0d,A0b,A0c,A0a,A0j,e]
def A77 {rt dp:Nat->Nat} (h:TF F rt dp) (v:Nat) (hv:v<12) {H:List Blk} {id:Nat} (hb:H[id]? =some (.box (fC F))):
  ACallH Tryz.prog 166 H [.c (.ptr id 0),.c (.int .i64 (v:Int))] H (.c (.int .i64 (rt v:Nat))):=
 ACall.hb (C3g h v hv) (by simp [toT,A0d,A0b,hb,Blk.cells,B1C,A0a,A0j]) rfl
def A8t {rt dp:Nat->Nat} (h:TF F rt dp) (a b:Nat) (ha:a<12) (hb:b<12) {H:List Blk} {id:Nat} (hid:H[id]? =some (.box (fC F))):
  ACallH Tryz.prog 124 H [.c (.ptr id 0),.agg [.int .i64 (a:Int),.int .i64 (b:Int)]] (H.set id (.box (fC (F.set (rt a) (rt b))))++[.box [.int .i64 (a:Int),.int .i64 (b:Int)]]) (.c (.bool (!decide (rt a=rt b)))):=by
 have hil:id<H.length:=(Qx.1 hid).1;have hid2: ∀B:Blk,(H++[B])[id]? =some (.box (fC F)):=fun B=>by rw [Qw hil]; exact hid
 have hst: ∀B X:Blk,(H++[B]).set id X=H.set id X++[B]:=fun B X=>Qx6 _ _ hil;have hnew: ∀B:Blk,(H++[B])[H.length]? =some B:=fun B=>by simp
 have rx:=A77 h a ha (hid2 (.box [.int .i64 (a:Int),.int .i64 (b:Int)]));have ry:=A77 h b hb (hid2 (.box [.int .i64 (a:Int),.int .i64 (b:Int)]));have la:=h.rlt a ha;have lb:=h.rlt b hb;have hlen:=h.len;generalize rt a=x at*;generalize rt b=y at*;refine ACallH.of_body Tryz.func124 rfl (by kernel_rfl) ?_;simp only [entry,Tryz.ntmps124,List.length_cons,List.length_nil,Nat.reduceAdd,Nat.reduceSub,List.replicate_succ,List.replicate_zero,List.cons_append,List.nil_append];by_cases e:x=y
 ·subst e;rw [decide_eq_true rfl];refine zJ Qv5 (zc @A0W (zc @A9o (zc @A5Z (zc @hlen (zc @hid2 (zc @hst (zc @hnew Qv5))))))) Qv5 (zc rx (zc ry Qv5)) Qv5 ?_;simp [A4Q,A2f,A0o,A2e,Tryz.results124]
 ·rw [decide_eq_false e];have eI: ¬((x:Int)=(y:Int)):=by omega
  refine zJ Qv5 (zc @A0W (zc @A9o (zc @A5Z (zc @hlen (zc @hid2 (zc @hst (zc @hnew (zc @eI Qv5)))))))) Qv5 (zc rx (zc ry Qv5)) Qv5 ?_;simp [A4Q,A2f,A0o,A2e,Tryz.results124]
def A2W {g:G} {n:Nat} (hc:checkG g=0) (hn:g.n=n):connB g=decide (ncls n (Conn (endsL g.es))=1):=by
 unfold connB;rw [show g.n.toNat=n by omega,B7B hc hn]
def B6d (g:G) (hl:g.es.length≤40):ACall Tryz.prog 76 [tG g] (.tup [A06 (if A0m g≠0 then [] else endsL g.es),A0j (A0m g)]):=by
 have hE:=B4r g (by omega);have hg:=A99;by_cases hc:checkG g=0
 case neg=>
  have ej:A0m g=checkG g:=by unfold A0m; rw [if_pos hc]
  rw [ej,if_pos hc];rw [if_pos hc] at hE;generalize checkG g=E at*;obtain ⟨n,es⟩:=g;refine ACall.of_body Tryz.func76 rfl (by kernel_rfl) ?_;simp only [entry,Tryz.ntmps76,tG];refine zU ?_;refine zR (zc @hc Qv5) (zc hE Qv5) Qv5 ?_;simp [A0s,A0r,Blk.cells,ty,Tryz.results76,A0o,A0p,toT,A0d,A0b,A0c,A0a,A0j,A06,A0U]
 have h12:=(A0h.1 hc).1;obtain ⟨k,hk⟩:=Zx (show 0≤g.n by omega);have hk':g.n=(k:Nat):=hk;have hcp:=A2W hc hk';have hin:InN k (endsL g.es):=fun p hp=>A1V hc hk' p hp;have hk0:0<k:=by omega
 have hk12:k≤12:=by omega
 have hll:(endsL g.es).length≤2000:=by
  have:=A61 (es:=g.es) fun e he=>by have:=(A0h.1 hc).2.1 e he; unfold okE at this; omega
  omega
 have ej:A0m g=if ncls k (Conn (endsL g.es))=1 then 0 else 13:=by
  unfold A0m;rw [if_neg (by omega),hcp];by_cases h:ncls k (Conn (endsL g.es))=1
  ·rw [if_pos h,if_pos (by simp [h])]
  ·rw [if_neg h,if_neg (by simp [h])]
 rw [ej];rw [if_neg (by omega)] at hE;clear ej hcp hc h12 hk';obtain ⟨n,es⟩:=g;simp only at hE hk hin hll ⊢;subst hk;generalize endsL es=L at*;have hr12:(List.range 12).length=12:=Vy;have hz0:=TCe.zero;have hnk:=A4u k;have hps:=C3f (R:=Conn L) hk0;generalize hR:List.range 12=R at*;have hof:(fT R).map A0v=fC R:=B7x R;have hst:=A3C A2A R (by rw [hr12]; rfl);have hz:fC A2A=[.int .i64 0,.int .i64 0,.int .i64 0,.int .i64 0,.int .i64 0,.int .i64 0,.int .i64 0,.int .i64 0,.int .i64 0,.int .i64 0,.int .i64 0,.int .i64 0]:=rfl;rw [hz] at hst;unfold tF at hg;change ACall _ _ [tG ⟨((k:Nat):Int),es⟩] _ at hE;show ACall _ _ [tG ⟨((k:Nat):Int),es⟩] _;refine ACall.of_body Tryz.func76 rfl (by kernel_rfl) ?_;simp only [entry,Tryz.ntmps76,tG];refine zU ?_;refine zR (zc @A0z (zc @A0W (zc @A4r (zc @hof (zc @hst (zc @hr12 Qv5)))))) (zc hE (zc hg Qv5)) Qv5 ?_;refine AWp.loopS (α:=(Nat×Int×List Nat)) 35 (fun s=>[(4,.c (.slice (A0U L) .none)),(6,.c (.ptr 1 0)),(7,.c (.int .i64 s.2.1)),(21,.c (.slice (A0U L) .none)),(22,.c (.int .i64 (L.length:Int))),(23,.c (.int .i64 (s.1:Int)))]) (fun s=>[.box [.int .i64 (k:Int),.slice (A0f es) .none],.box (fC s.2.2)]) (fun s=>s.1≤L.length∧s.2.1=(ncls k (Conn (L.take s.1)):Nat)∧TCe (L.take s.1) s.2.2) (fun s=>L.length-s.1) ((0,(k:Int),R)) (hk:=Weak.headL 2 35 [4,6,7,21,22,23] (zWs @A1s)) (h0:=?_) (round:=fun s hI=>?_)
 ·exact ⟨Xj _,by simp only [List.take_zero]; rw [hnk],hz0⟩
 ·obtain ⟨i,c,F⟩:=s;obtain ⟨hi,hcc,hT⟩:=hI;simp only at hi hcc hT ⊢;by_cases hlt:i<L.length
  ·have hltI:(i:Int)<L.length:=by omega
   have e0:=Qq hlt;have e1:=A28 e0;have hsn:=take_snoc e0;have hrng:=hin _ (Xw hlt);generalize L[i]=p at*;obtain ⟨pa,pb⟩:=p;obtain ⟨a,rfl⟩:=Zx hrng.1.1;obtain ⟨b,rfl⟩:=Zx hrng.2.1;have ha:a<k:=by have:=hrng.1.2; simp only at this; omega
   have hb:b<k:=by have:=hrng.2.2; simp only at this; omega
   change L.take (i+1)=L.take i++[((a:Int),(b:Int))] at hsn;change (A0U L)[i]? =some [.int .i64 (a:Int),.int .i64 (b:Int)] at e1;obtain ⟨rt,dp,tc⟩:=hT;have tn:=tc.snoc (a:=a) (b:=b) (by omega) (by omega);rw [<-hsn] at tn;have hJ:=A8t tc.tf a b (by omega) (by omega) (H:=[.box [.int .i64 (k:Int),.slice (A0f es) .none],.box (fC F),.box [.int .i64 (a:Int),.int .i64 (b:Int)]]) (id:=1) rfl;have hcn:=tc.conn a b (by omega) (by omega);have hcb:(ncls k (Conn (L.take i)):Int)≤12:=by
    have:ncls k (Conn (L.take i))≤k:=by
     unfold ncls;refine Yw (WW _ _) ?_;rw [Vy]; exact Qk _
    omega
   by_cases e:rt a=rt b
   ·have hs:=A3F (n:=k) (hcn.1 e);rw [<-hsn] at hs;rw [decide_eq_true e,Qq4] at hJ;simp only [List.set_cons_succ,List.set_cons_zero,List.cons_append,List.nil_append] at hJ;refine zJ Qv5 (zc @hltI (zc @e1 (zc @A0z Qv5))) Qv5 (zc hJ Qv5) Qv5 ?_;refine ⟨(i+1,c,F.set (rt a) (rt b)),Weak.headN 2 35 [4,6,7,21,22,23] (zWs @A1s),?_,?_⟩
    ·exact ⟨hlt,by simp only; omega,tn⟩
    ·simp only; omega
   ·have hs:=A2Q (n:=k) ha hb (fun h=>e (hcn.2 h));rw [<-hsn] at hs;rw [decide_eq_false e,Qx8] at hJ;simp only [List.set_cons_succ,List.set_cons_zero,List.cons_append,List.nil_append] at hJ;refine zJ Qv5 (zc @hltI (zc @e1 (zc @A0z Qv5))) Qv5 (zc hJ Qv5) Qv5 ?_;refine ⟨(i+1,c-1,F.set (rt a) (rt b)),Weak.headN 2 35 [4,6,7,21,22,23] (zWs @A1s),?_,?_⟩
    ·exact ⟨hlt,by simp only; omega,tn⟩
    ·simp only; omega
  ·have ei:i=L.length:=by omega
   subst ei;rw [Zz] at hcc;have hnl: ¬((L.length:Int)<L.length):=by omega
   by_cases h1:ncls k (Conn L)=1
   ·rw [if_pos h1,if_neg (by omega)];have hc1: ¬(1<c):=by omega
    refine zR (zc @hnl (zc @hc1 Qv5)) Qv5 Qv5 ?_;simp [A0s,A0r,Blk.cells,ty,Tryz.results76,A0o,A0p,toT,A0d,A0b,A0c,A0a,A0j,A06]
   ·rw [if_neg h1,if_pos (by omega)];have hc1:1<c:=by omega
    refine zR (zc @hnl (zc @hc1 Qv5)) Qv5 Qv5 ?_;simp [A0s,A0r,Blk.cells,ty,Tryz.results76,A0o,A0p,toT,A0d,A0b,A0c,A0a,A0j,A06,A0U]
def B6e {A B:List (Int×Int)} (h:acyc (A++B)):acyc A:=fun k p hp=>by
 have hk:=(Qx.1 hp).1;have:=h k p (by rw [Qw hk]; exact hp);rwa [ZZ (by omega)] at this
def C3h (n:Nat) (L:List (Int×Int)) (t:List Int) (h0:0<n) (hn:n≤12) (hL:InN n L) (ht: ∀x,x∈t->0≤x∧x<L.length) (hLl:L.length<2^40) (htl:t.length<2^40):
  ACall Tryz.prog 181 [A0j n,A06 L,A0k t] (A0q (treeB n L t)):=by
 have hg:=A99;have htb:=B7C h0 hL ht;have hr12:(List.range 12).length=12:=Vy;have hz0:=TCe.zero;generalize hR:List.range 12=R at*;have hof:(fT R).map A0v=fC R:=B7x R;have hst:=A3C A2A R (by rw [hr12]; rfl);have hz:fC A2A=[.int .i64 0,.int .i64 0,.int .i64 0,.int .i64 0,.int .i64 0,.int .i64 0,.int .i64 0,.int .i64 0,.int .i64 0,.int .i64 0,.int .i64 0,.int .i64 0]:=rfl;rw [hz] at hst;unfold tF at hg;refine ACall.of_body Tryz.func181 rfl (by kernel_rfl) ?_;simp only [entry,Tryz.ntmps181,A06,A0k,A0j];refine zU ?_;refine zR (zc @A0e (zc @A0W (zc @A4r (zc @hof (zc @hst (zc @hr12 Qv5)))))) (zc hg Qv5) Qv5 ?_;refine AWp.loopS (α:=(Nat×List Nat)) 29 (fun s=>[(0,.c (.int .i64 (n:Int))),(1,.c (.slice (A0U L) .none)),(2,.c (.slice (A0l t) .none)),(7,.c (.ptr 0 0)),(11,.c (.slice (A0l t) .none)),(12,.c (.int .i64 (t.length:Int))),(13,.c (.int .i64 (s.1:Int)))]) (fun s=>[.box (fC s.2)]) (fun s=>s.1≤t.length∧TCe (pkL L (t.take s.1)) s.2∧acyc (pkL L (t.take s.1))) (fun s=>t.length-s.1) ((0,R)) (hk:=Weak.headL 1 29 [0,1,2,7,11,12,13] (zWs @A1s)) (h0:=?_) (round:=fun s hI=>?_)
 ·exact ⟨Xj _,hz0,A2P⟩
 ·obtain ⟨i,F⟩:=s;obtain ⟨hi,hT,hac⟩:=hI;simp only at hi hT hac ⊢;by_cases hlt:i<t.length
  ·have hltI:(i:Int)<t.length:=by omega
   have e0:=Qq hlt;have e1:=A0t e0;have hsn:pkL L (t.take (i+1))=pkL L (t.take i)++[L.getD t[i].toNat (0,0)]:=by
    unfold pkL; rw [Xy hlt,Jz]; rfl
   have hpre:pkL L t=pkL L (t.take (i+1))++pkL L (t.drop (i+1)):=by
    unfold pkL; rw [<-Jz,WJ]
   have hx:=ht _ (Xw hlt);generalize t[i]=x at*;obtain ⟨z,rfl⟩:=Zx hx.1;have hzl:z<L.length:=by have:=hx.2; omega
   have g0:=Qq hzl;have g1:=A28 g0;rw [show ((z:Nat):Int).toNat=z from rfl,Qz,g0,Option.getD_some] at hsn;have hrng:=hL _ (Xw hzl);generalize L[z]=p at*;obtain ⟨pa,pb⟩:=p;obtain ⟨a,rfl⟩:=Zx hrng.1.1;obtain ⟨b,rfl⟩:=Zx hrng.2.1;have ha:a<n:=by have:=hrng.1.2; simp only at this; omega
   have hb:b<n:=by have:=hrng.2.2; simp only at this; omega
   change pkL L (t.take (i+1))=pkL L (t.take i)++[((a:Int),(b:Int))] at hsn;change (A0U L)[z]? =some [.int .i64 (a:Int),.int .i64 (b:Int)] at g1;change (A0l t)[i]? =some [.int .i64 (z:Int)] at e1;have hzI:(z:Int)<(L.length:Int):=by omega
   obtain ⟨rt,dp,tc⟩:=hT;have tn:=tc.snoc (a:=a) (b:=b) (by omega) (by omega);rw [<-hsn] at tn;have hJ:=A8t tc.tf a b (by omega) (by omega) (H:=[.box (fC F)]) (id:=0) rfl;have hcn:=tc.conn a b (by omega) (by omega);by_cases e:rt a=rt b
   ·have hfalse:treeB n L t=false:=by
     rw [Bool.eq_false_iff];intro h;have:=B6e (hpre▸(htb.1 h).1);rw [hsn,A2D] at this;exact this.2 (hcn.1 e)
    rw [decide_eq_true e,Qq4] at hJ;simp only [List.set_cons_succ,List.set_cons_zero,List.cons_append,List.nil_append] at hJ;rw [hfalse];refine zJ Qv5 (zc @hltI (zc @e1 (zc @g1 (zc @hzI (zc @A0z (zc @A0e Qv5)))))) Qv5 (zc hJ Qv5) Qv5 ?_;simp [A0s,A0r,Blk.cells,ty,Tryz.results181,A0o,A0p,toT,A0d,A0b,A0c,A0a,A0q]
   ·have hac2:acyc (pkL L (t.take (i+1))):=by
     rw [hsn,A2D];exact ⟨hac,fun h=>e (hcn.2 h)⟩
    rw [decide_eq_false e,Qx8] at hJ;simp only [List.set_cons_succ,List.set_cons_zero,List.cons_append,List.nil_append] at hJ;refine zJ Qv5 (zc @hltI (zc @e1 (zc @g1 (zc @hzI (zc @A0z (zc @A0e Qv5)))))) Qv5 (zc hJ Qv5) Qv5 ?_;refine ⟨(i+1,F.set (rt a) (rt b)),Weak.headN 1 29 [0,1,2,7,11,12,13] (zWs @A1s),?_,?_⟩
    ·exact ⟨hlt,tn,hac2⟩
    ·simp only; omega
  ·have ei:i=t.length:=by omega
   subst ei;rw [Zz] at hac;have hnl: ¬((t.length:Int)<t.length):=by omega
   by_cases hq:(t.length:Int)=(n:Int)-1
   ·rw [htb.2 ⟨hac,hq⟩];refine zR (zc @hnl (zc @A0e (zc @hq Qv5))) Qv5 Qv5 ?_;simp [A0s,A0r,Blk.cells,ty,Tryz.results181,A0o,A0p,toT,A0d,A0b,A0c,A0a,A0q]
   ·have hfalse:treeB n L t=false:=by
     rw [Bool.eq_false_iff];exact fun h=>hq (htb.1 h).2
    rw [hfalse];refine zR (zc @hnl (zc @A0e (zc @hq Qv5))) Qv5 Qv5 ?_;simp [A0s,A0r,Blk.cells,ty,Tryz.results181,A0o,A0p,toT,A0d,A0b,A0c,A0a,A0q]
def C7M (g:G) (l:List Int):Int:=if checkG g≠0 then checkG g else A49 (endsL g.es).length none l
def C0o (g:G) (l:List Int) (hg:g.es.length≤40) (hl:l.length<2^40):ACall Tryz.prog 180 [tG g,A0k l] (A0j (C7M g l)):=by
 have hS:=C4H g (by omega);unfold C7M;by_cases hc:checkG g=0
 case neg=>
  rw [if_pos hc];rw [if_pos hc] at hS;generalize checkG g=E at*;obtain ⟨n,es⟩:=g;refine ACall.of_body Tryz.func180 rfl (by kernel_rfl) ?_;simp only [entry,Tryz.ntmps180,tG,A0k];refine zU ?_;refine zR (zc @hc Qv5) (zc hS Qv5) Qv5 ?_;simp [A0s,A0r,Blk.cells,ty,Tryz.results180,A0o,A0p,toT,A0d,A0b,A0c,A0a,A0j]
 rw [if_neg (by omega)];rw [if_neg (by omega),hc] at hS;have hlen:=A2O hg hc;generalize (endsL g.es).length=N at*;clear hc hg;obtain ⟨n,es⟩:=g;refine ACall.of_body Tryz.func180 rfl (by kernel_rfl) ?_;simp only [entry,Tryz.ntmps180,tG,A0k];refine zU ?_;refine zR (zc @A0e Qv5) (zc hS Qv5) Qv5 ?_;refine AWp.loopS (α:=Nat) 45 (fun k=>[(1,.c (.slice (A0l l) .none)),(2,.c (.ptr 0 0)),(5,.c (.int .i64 (N:Int))),(17,.c (.slice (A0l l) .none)),(18,.c (.int .i64 l.length)),(19,.c (.int .i64 (k:Int)))]) (fun k=>[.box [.int .i64 n,.slice (A0f es) .none]]) (fun k=>k≤l.length∧A49 N none l=A49 N (match k with | 0=>none | j+1=>l[j]?) (l.drop k)) (fun k=>l.length-k) (0) (hk:=Weak.headL 1 45 [1,2,5,17,18,19] zW) (h0:=?_) (round:=fun k hI=>?_)
 ·exact ⟨Xj _,rfl⟩
 ·obtain ⟨hk,hx⟩:=hI;by_cases hlt:k<l.length
  ·have hltI:(k:Int)<l.length:=by omega
   have e0:=Qq hlt;have e1:=A0t e0;rw [Zk hlt,A49] at hx;generalize hv:l[k]=v at*;by_cases v0:v<0
   ·rw [if_pos (by omega)] at hx;rw [hx];refine zR (zc @hltI (zc @e1 (zc @v0 Qv5))) Qv5 Qv5 ?_;simp [A0s,A0r,Blk.cells,ty,Tryz.results180,A0o,A0p,toT,A0d,A0b,A0c,A0a,A0j]
   by_cases v1:(N:Int)≤v
   ·rw [if_pos (by omega)] at hx;rw [hx];refine zR (zc @hltI (zc @e1 (zc @v0 (zc @v1 Qv5)))) Qv5 Qv5 ?_;simp [A0s,A0r,Blk.cells,ty,Tryz.results180,A0o,A0p,toT,A0d,A0b,A0c,A0a,A0j]
   rw [if_neg (by omega)] at hx;cases k with
   | zero=>
    simp only [reduceCtorEq,false_and,exists_false,if_false] at hx;refine zR (zc @hltI (zc @e1 (zc @v0 (zc @v1 Qv5)))) Qv5 Qv5 ?_;refine ⟨0+1,Weak.headN 1 45 [1,2,5,17,18,19] zW,?_,?_⟩
    ·exact ⟨hlt,hx.trans (by simp only [e0])⟩
    ·omega
   | succ j=>
    have e2:=Qq (show j<l.length by omega);have e3:=A0t e2;have hj1:((j+1:Nat):Int)-1=(j:Int):=by omega
    have hj2:(0:Int)<((j+1:Nat):Int):=by omega
    have hj3:(j:Int)<l.length:=by omega
    simp only [e2,Vv,exists_eq_left'] at hx;generalize hu:l[j]=u at*;by_cases hvu:v≤u
    ·rw [if_pos hvu] at hx;rw [hx];refine zR (zc @hltI (zc @e1 (zc @e3 (zc @hj1 (zc @hj2 (zc @hj3 (zc @A0e (zc @v0 (zc @v1 (zc @hvu Qv5)))))))))) Qv5 Qv5 ?_;simp [A0s,A0r,Blk.cells,ty,Tryz.results180,A0o,A0p,toT,A0d,A0b,A0c,A0a,A0j]
    ·rw [if_neg hvu] at hx;refine zR (zc @hltI (zc @e1 (zc @e3 (zc @hj1 (zc @hj2 (zc @hj3 (zc @A0e (zc @v0 (zc @v1 (zc @hvu Qv5)))))))))) Qv5 Qv5 ?_;refine ⟨j+1+1,Weak.headN 1 45 [1,2,5,17,18,19] zW,?_,?_⟩
     ·exact ⟨hlt,hx.trans (by simp only [e0])⟩
     ·omega
  ·have e:k=l.length:=by omega
   have e:A49 N none l=0:=by rw [hx,e,Qq9]; rfl
   have hnl: ¬((k:Int)<l.length):=by omega
   rw [e];refine zR (zc @hnl Qv5) Qv5 Qv5 ?_;simp [A0s,A0r,Blk.cells,ty,Tryz.results180,A0o,A0p,toT,A0d,A0b,A0c,A0a,A0j]
noncomputable def A9Z (g:G) (t:List Int):G:=⟨g.n,A3i (A5D (pkL (endsL g.es) t))⟩
def C0p {n:Int} (hM: ∀p,p∈M->okP n p) {x y:Int}:(x,y)∈endsL (A3i (A5D M))↔ ∃p,p∈M∧min p.1 p.2=x∧max p.1 p.2=y:=by
 have hb:=C0i hM M.length (Qk _);have hcnt: ∀a b,A3I (A5D M) a b=(M.countP (isP a b):Int):=fun a b=>by
  have e:=C3c M a b M.length (Qk _);rwa [Zz] at e
 rw [Zz] at hb;constructor
 ·intro h;obtain ⟨e,he,hx⟩:=A3W h;have he':=(A1v (A5D M)).mem_iff.1 he;have hc:=A3o hb.d he';have hm:=hb.m e he';rw [hcnt] at hc;have hpos:0<M.countP (isP e.a e.b):=by omega
  obtain ⟨p,hp,hq⟩:=List.countP_pos_iff.1 hpos;unfold isP at hq;simp only [decide_eq_true_eq] at hq;cases hx;exact ⟨p,hp,hq.1,hq.2⟩
 ·rintro ⟨p,hp,rfl,rfl⟩;have hpos:0<M.countP (isP (min p.1 p.2) (max p.1 p.2)):=List.countP_pos_iff.2 ⟨p,hp,by unfold isP; simp⟩;have hne:A3I (A5D M) (min p.1 p.2) (max p.1 p.2)≠0:=by rw [hcnt]; omega
  have hmem:=A3p hne;have hm:=hb.m _ hmem;exact Jy.2 ⟨_,(A1v (A5D M)).mem_iff.2 hmem,Wq.2 ⟨by simp only at hm ⊢; omega,rfl⟩⟩
def B1M {l m:List (Int×Int)} (h: ∀x y,(x,y)∈l->(x,y)∈m∨(y,x)∈m) {u w:Nat} (hc:Conn l u w):Conn m u w:=by
 induction hc with
 | refl=>exact .refl
 | step _ hs ih=>
  rcases hs with hs | hs
  ·rcases h _ _ hs with q | q
   ·exact ih.step (.inl q)
   ·exact ih.step (.inr q)
  ·rcases h _ _ hs with q | q
   ·exact ih.step (.inr q)
   ·exact ih.step (.inl q)
def C3i {n:Int} (hM: ∀p,p∈M->okP n p) {u w:Nat}:Conn (endsL (A3i (A5D M))) u w↔Conn M u w:=by
 constructor
 ·refine B1M fun x y hxy=> ?_;obtain ⟨p,hp,rfl,rfl⟩:=(C0p hM).1 hxy;obtain ⟨a,b⟩:=p;rcases Int.le_total a b with h | h
  ·rw [Int.min_eq_left h,Int.max_eq_right h]; exact .inl hp
  ·rw [Int.min_eq_right h,Int.max_eq_left h]; exact .inr hp
 ·refine B1M fun x y hxy=> ?_;have:=(C0p hM (x:=min x y) (y:=max x y)).2 ⟨(x,y),hxy,rfl,rfl⟩;rcases Int.le_total x y with h | h
  ·rw [Int.min_eq_left h,Int.max_eq_right h] at this; exact .inl this
  ·rw [Int.min_eq_right h,Int.max_eq_left h] at this; exact .inr this
def B4T {g:G} (hc:checkG g=0) {t:List Int} (ht: ∀x,x∈t->0≤x∧x<(endsL g.es).length): ∀p,p∈pkL (endsL g.es) t->okP g.n p:=fun p hp=>by
 have h12:=(A0h.1 hc).1;have:=A98 (n:=g.n.toNat) (L:=endsL g.es) (fun p hp=>A1V hc (by omega) p hp) ht p hp;unfold okP; omega
def C0q {n:Int} (hn:1≤n∧n≤12) {M:List (Int×Int)} (hM: ∀p,p∈M->okP n p) (hl:M.length≤50):checkG ⟨n,A3i (A5D M)⟩=0∧(A3i (A5D M)).length≤M.length:=by
 have hb:=C0i hM M.length (Qk _);rw [Zz] at hb;refine ⟨A0h.2 ⟨hn,fun e he=> ?_,A29 hb.d⟩,?_⟩
 ·have he':=(A1v (A5D M)).mem_iff.1 he;have h1:=hb.m e he';have h2:=hb.r e he';unfold okE; simp only; omega
 ·rw [(A1v (A5D M)).length_eq]; exact hb.len
def C0r {g:G} (hc:checkG g=0) {t:List Int} (ht: ∀x,x∈t->0≤x∧x<(endsL g.es).length) (hl:t.length≤50):A5W g.n (pkL (endsL g.es) t)=(A9Z g t,0):=by
 have h12:=(A0h.1 hc).1;have hM:=B4T hc ht;have hb:=C0i hM _ (Qk _);rw [Zz] at hb;unfold A5W A9Z
 rw [if_neg (by omega),if_neg (by rw [A2z]; omega),if_neg (by
  rintro ⟨p,hp,hx⟩; exact hx (hM p hp)),if_neg (by
  rintro ⟨e,he,hx⟩;have:=hb.m e he
  rw [A2z] at this; omega)]
def C5s (g:G) (t:List Int) (hg:g.es.length≤40) (hc:checkG g=0) (ht: ∀x,x∈t->0≤x∧x<(endsL g.es).length) (hl:t.length≤50):ACall Tryz.prog 144 [tG g,A0k t] (tG (A9Z g t)):=by
 have hE:=B0O g hg hc;have hM:=C3b g.n (pkL (endsL g.es) t) (by rw [A2z]; omega);rw [C0r hc ht hl] at hM;have hlen:=A2O hg hc;generalize A9Z g t=W at*;obtain ⟨wn,wes⟩:=W;generalize endsL g.es=L at*;clear hc hg;obtain ⟨n,es⟩:=g;simp only at hM ⊢;refine ACall.of_body Tryz.func144 rfl (by kernel_rfl) ?_;simp only [entry,Tryz.ntmps144,tG,A0k];refine zU ?_;refine zJ (stop 3) Qv5 (zc hE Qv5) Qv5 Qv5 ?_;refine AWp.weak (Weak.opens ((fun t f=>[f,f,f,f,f,f,t,f,f,f,f,f,f,f,f,f,f,f,f,f,f,f,f,f,f,f,f,f,f,f,f,f,f,f,f,f]) true false) 2 (by first | omega | simp)) ?_;simp only [A2t,A7l,List.length_cons,List.length_nil,Xv,Nat.reduceAdd,List.cons_append,List.nil_append];refine zR Qv5 Qv5 Qv5 ?_;refine AWp.loopS (α:=Nat) 36 (fun i=>[(1,.c (.slice (A0l t) .none)),(2,.c (.ptr 0 0)),(4,.c (.ptr 1 0)),(5,.c (.slice (A0U L) .none)),(6,.c (.slice (A0U (pkL L (t.take i))) (.chain 2))),(7,.c (.int .i64 (i:Int)))]) (fun i=>[.box [.int .i64 n,.slice (A0f es) .none],.box [.int .i64 0,.nils],.chain (pkL L (t.take i)).length 2]) (fun i=>i≤t.length) (fun i=>t.length-i) (0) (hk:=Weak.headL 3 36 [1,2,4,5,6,7] zW) (h0:=?_) (round:=fun i hI=>?_)
 ·exact Xj _
 ·have hi:i≤t.length:=hI;clear hI;have htl:(pkL L (t.take i)).length=i:=by rw [A2z,Wk]; omega
  by_cases hlt:i<t.length
  ·have hltI:(i:Int)<t.length:=by omega
   have e0:=Qq hlt;have e1:=A0t e0;have hsn:pkL L (t.take (i+1))=pkL L (t.take i)++[L.getD t[i].toNat (0,0)]:=by
    unfold pkL; rw [Xy hlt,Jz]; rfl
   have hx:=ht _ (Xw hlt);have htl2:(pkL L (t.take (i+1))).length=i+1:=by rw [A2z,Wk]; omega
   generalize t[i]=x at*;obtain ⟨z,rfl⟩:=Zx hx.1;have hzl:z<L.length:=by have:=hx.2; omega
   have hzI:(z:Int)<(L.length:Int):=by omega
   have g0:=Qq hzl;have g1:=A28 g0;rw [show ((z:Nat):Int).toNat=z from rfl,Qz,g0,Option.getD_some] at hsn;have hps:A0U (pkL L (t.take i))++[[.int .i64 L[z].1,.int .i64 L[z].2]]=A0U (pkL L (t.take (i+1))):=by rw [hsn]; simp [A0U,C7w]
   generalize L[z]=p at*;obtain ⟨a,b⟩:=p;change (A0l t)[i]? =some [.int .i64 (z:Int)] at e1;simp only at hps g1;generalize hM2:pkL L (t.take (i+1))=M2 at*;generalize pkL L (t.take i)=M1 at*;refine zRc (zc @hltI (zc @e1 (zc @g1 (zc @hzI (zc @hps (zc @A0z (zc @A0e (zc @htl Qv5)))))))) Qv5 @A6w ?_;refine ⟨i+1,Weak.headF 3 36 [1,2,4,5,6,7] (zc @hM2 (zc @htl2 (zc @htl Qv5))) zW,?_,?_⟩
   ·exact hlt
   ·omega
  ·have ei:i=t.length:=by omega
   have hnl: ¬((i:Int)<(t.length:Int)):=by omega
   have eT:t.take i=t:=by rw [ei,Zz]
   rw [eT] at htl ⊢;generalize pkL L t=M at*;refine zR (zc @hnl (zc @A0e Qv5)) (zc hM Qv5) Qv5 ?_;simp [A0s,A0r,Blk.cells,ty,Tryz.results144,A0o,A0p,toT,A0d,A0b,A0c,A0a,tG]
def C0s {g:G} (hc:checkG g=0) {t:List Int} (ht: ∀x,x∈t->0≤x∧x<(endsL g.es).length) {u w:Nat}:Conn (endsL (A9Z g t).es) u w↔Conn (pkL (endsL g.es) t) u w:=C3i (B4T hc ht)
def B0S {g:G} (hc:checkG g=0) {t:List Int} (ht: ∀x,x∈t->0≤x∧x<(endsL g.es).length) (hl:t.length≤50):checkG (A9Z g t)=0∧(A9Z g t).es.length≤t.length:=by
 have h:=C0q (A0h.1 hc).1 (B4T hc ht) (by rw [A2z]; exact hl);rw [A2z] at h;exact h
def B7D {g:G} {n:Nat} (hc:checkG g=0) (hn:g.n=n) {t:List Int} (ht: ∀x,x∈t->0≤x∧x<(endsL g.es).length) (hl:t.length≤50):connB (A9Z g t)=decide (ncls n (Conn (pkL (endsL g.es) t))=1):=by
 rw [A2W (B0S hc ht hl).1 (n:=n) hn,A2v fun x y _ _=>C0s hc ht]
def C7N (g:G) (t:List Int) (hg:g.es.length≤40) (hc:checkG g=0) (ht: ∀x,x∈t->0≤x∧x<(endsL g.es).length) (hl:t.length≤40):ACall Tryz.prog 85 [tG g,A0k t] (A0q (treeB g.n.toNat (endsL g.es) t)):=by
 have h12:=(A0h.1 hc).1;have hn:g.n=(g.n.toNat:Nat):=by omega
 have hW:=C5s g t hg hc ht (by omega);have hwc:=B0S hc ht (by omega);have hC:=B0P (A9Z g t) (by omega) hwc.1;rw [B7D hc hn ht (by omega)] at hC;have eT:treeB g.n.toNat (endsL g.es) t=(decide ((t.length:Int)=g.n-1)&&decide (ncls g.n.toNat (Conn (pkL (endsL g.es) t))=1)):=by
  unfold treeB;rw [Qj2,decide_eq_true_eq,XV,decide_eq_true_eq,decide_eq_true_eq,<-hn]
 rw [eT];generalize decide (ncls g.n.toNat (Conn (pkL (endsL g.es) t))=1)=b at*;generalize A9Z g t=W at*;clear hwc ht eT hn hc hg;obtain ⟨n,es⟩:=g;simp only at h12 ⊢;refine ACall.of_body Tryz.func85 rfl (by kernel_rfl) ?_;simp only [entry,Tryz.ntmps85,tG,A0k];refine zU ?_;by_cases h1:(t.length:Int)=n-1
 ·rw [decide_eq_true h1,VQ];refine zR (zc @A0e (zc @h1 Qv5)) (zc hW (zc hC Qv5)) Qv5 ?_;simp [A0s,A0r,Blk.cells,ty,Tryz.results85,A0o,A0p,toT,A0d,A0b,A0c,A0a,A0q]
 ·rw [decide_eq_false h1,VW];refine zR (zc @A0e (zc @h1 Qv5)) Qv5 Qv5 ?_;simp [A0s,A0r,Blk.cells,ty,Tryz.results85,A0o,A0p,toT,A0d,A0b,A0c,A0a,A0q]
def B4U (g:G) (t:List Int) (hg:g.es.length≤40) (hl:t.length<2^40):ACall Tryz.prog 152 [tG g,A0k t] (.tup [A06 (if A8e g t≠0 then [] else endsL g.es),A0j (A8e g t)]):=by
 have hJ:=B6d g hg;by_cases hj:A0m g=0
 case neg=>
  have e:A8e g t=A0m g:=by unfold A8e; rw [if_pos hj]
  rw [e];rw [if_pos hj] at hJ ⊢;generalize A0m g=E at*;obtain ⟨n,es⟩:=g;refine ACall.of_body Tryz.func152 rfl (by kernel_rfl) ?_;simp only [entry,Tryz.ntmps152,tG,A0k];refine zU ?_;refine zR (zc @hj Qv5) (zc hJ Qv5) Qv5 ?_;simp [A0s,A0r,Blk.cells,ty,Tryz.results152,A0o,A0p,toT,A0d,A0b,A0c,A0a,A0j,A06,A0U]
 have hc:checkG g=0:=by
  unfold A0m at hj;by_cases h:checkG g=0
  ·exact h
  ·rw [if_pos h] at hj; exact absurd hj h
 have h12:=(A0h.1 hc).1;have hE:=C0o g t hg (by omega);unfold C7M at hE;rw [if_neg (by omega)] at hE;have hlen:=A2O hg hc;have eT:A8e g t=if A49 (endsL g.es).length none t≠0 then A49 (endsL g.es).length none t else if (t.length:Int)≠g.n-1 then 8 else if treeB g.n.toNat (endsL g.es) t=true then 0 else 3:=by unfold A8e; rw [if_neg (by omega)]
 rw [eT];rw [hj] at hJ;rw [if_neg (by omega)] at hJ;by_cases hs:A49 (endsL g.es).length none t=0
 case neg=>
  have e2:(if A49 (endsL g.es).length none t≠0 then A49 (endsL g.es).length none t else if (t.length:Int)≠g.n-1 then 8 else if treeB g.n.toNat (endsL g.es) t=true then 0 else 3)=A49 (endsL g.es).length none t:=if_pos hs;rw [e2,if_pos hs];generalize A49 (endsL g.es).length none t=E at*;generalize endsL g.es=L at*;clear hc eT e2;obtain ⟨n,es⟩:=g;refine ACall.of_body Tryz.func152 rfl (by kernel_rfl) ?_;simp only [entry,Tryz.ntmps152,tG,A0k];refine zU ?_;refine zR (zc @hs Qv5) (zc hJ (zc hE Qv5)) Qv5 ?_;simp [A0s,A0r,Blk.cells,ty,Tryz.results152,A0o,A0p,toT,A0d,A0b,A0c,A0a,A0j,A06,A0U]
 have hn:g.n=(g.n.toNat:Nat):=by omega
 have hI:=C3h g.n.toNat (endsL g.es) t (by omega) (by omega) (fun p hp=>A1V hc hn p hp) (A76 hs) (by omega) hl;rw [<-hn] at hI;have e2:(if A49 (endsL g.es).length none t≠0 then A49 (endsL g.es).length none t else if (t.length:Int)≠g.n-1 then 8 else if treeB g.n.toNat (endsL g.es) t=true then 0 else 3)=if (t.length:Int)≠g.n-1 then 8 else if treeB g.n.toNat (endsL g.es) t=true then 0 else 3:=if_neg (by omega)
 rw [e2];rw [hs] at hE;generalize treeB g.n.toNat (endsL g.es) t=b at*;generalize endsL g.es=L at*;clear hc eT hs hj hg hn e2;obtain ⟨n,es⟩:=g;simp only at h12 hI ⊢;refine ACall.of_body Tryz.func152 rfl (by kernel_rfl) ?_;simp only [entry,Tryz.ntmps152,tG,A0k];refine zU ?_;by_cases h1:(t.length:Int)=n-1
 ·have h2: ¬((t.length:Int)≠n-1):=by omega
  simp only [if_neg h2];cases b with
  | true=>
   rw [show (if true=true then (0:Int) else 3)=0 from rfl,if_neg (by omega)];refine zR (zc @A0e (zc @h1 Qv5)) (zc hJ (zc hE (zc hI Qv5))) Qv5 ?_;simp [A0s,A0r,Blk.cells,ty,Tryz.results152,A0o,A0p,toT,A0d,A0b,A0c,A0a,A0j,A06]
  | false=>
   rw [show (if false=true then (0:Int) else 3)=3 from rfl,if_pos (by omega)];refine zR (zc @A0e (zc @h1 Qv5)) (zc hJ (zc hE (zc hI Qv5))) Qv5 ?_;simp [A0s,A0r,Blk.cells,ty,Tryz.results152,A0o,A0p,toT,A0d,A0b,A0c,A0a,A0j,A06,A0U]
 ·simp only [if_pos h1];rw [if_pos (by omega)];refine zR (zc @A0e (zc @h1 Qv5)) (zc hJ (zc hE Qv5)) Qv5 ?_;simp [A0s,A0r,Blk.cells,ty,Tryz.results152,A0o,A0p,toT,A0d,A0b,A0c,A0a,A0j,A06,A0U]
def C0t (g:G) (t:List Int) (hg:g.es.length≤40) (hl:t.length<2^40):ACall Tryz.prog 98 [tG g,A0k t] (A0j (A8e g t)):=by
 have h:=B4U g t hg hl;generalize (if A8e g t≠0 then [] else endsL g.es)=L at*;generalize A8e g t=E at*;obtain ⟨n,es⟩:=g;refine ACall.of_body Tryz.func98 rfl (by kernel_rfl) ?_;simp only [entry,Tryz.ntmps98,tG,A0k];refine zU ?_;refine zR Qv5 (zc h Qv5) Qv5 ?_;simp [A0s,A0r,Blk.cells,ty,Tryz.results98,A0o,A0p,toT,A0d,A0b,A0c,A0a,A0j]
end Go.Proofs.YtdbdfkohpjefjaaGreat
