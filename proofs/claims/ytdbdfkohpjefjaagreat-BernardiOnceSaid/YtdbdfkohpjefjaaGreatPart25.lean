/- A part of the proof. -/
import Derived.Test.YtdbdfkohpjefjaaGreatPart21
import Derived.Test.YtdbdfkohpjefjaaGreatPart22
set_option linter.all false
set_option maxHeartbeats 4000000
set_option maxRecDepth 100000
namespace Go.Proofs.YtdbdfkohpjefjaaGreat
open Go.Sp
open Classical in
theorem A8Z {N n:Nat} (g:Nat->Nat) (hr: ∀x,x<N->g x<n) (hs: ∀v,v<n-> ∃x,x<N∧g x=v):ncls N (fun x y=>g x=g y)=n:=by
 unfold ncls;generalize hl:List.filter _ (List.range N)=l;have hmem: ∀h,h∈l↔h<N∧ ∀y,y<N->g h=g y->h≤y:=fun h=>by rw [<-hl]; simp
 have hnd:l.Nodup:=by rw [<-hl]; exact List.nodup_range.filter _
 have hinj: ∀a b,a∈l->b∈l->g a=g b->a=b:=fun a b ha hb e=>by
  have h1:=(hmem a).1 ha;have h2:=(hmem b).1 hb;have:=h1.2 b h2.1 e;have:=h2.2 a h1.1 e.symm;omega
 have hnd2:(l.map g).Nodup:=by
  rw [List.Nodup,Jj];exact List.Pairwise.imp_of_mem (fun {a b} ha hb hne e=>hne (hinj a b ha hb e)) hnd
 have h1:=Wx hnd2 (l₂:=List.range n) (fun v hv=>by
  obtain ⟨x,hx,rfl⟩:=QJ.1 hv
  exact XQ.2 (hr x ((hmem x).1 hx).1))
 have h2:=Wx (Qq4 (n:=n)) (l₂:=l.map g) (fun v hv=>by
  obtain ⟨x,hx,e⟩:=hs v (XQ.1 hv);obtain ⟨m,m1,⟨m2,m3⟩,m4⟩:=A7K (P:=fun y=>y<N∧g y=v) ⟨hx,e⟩
  exact QJ.2 ⟨m,(hmem m).2 ⟨m2,fun y hy he=>m4 y ⟨hy,by rw [<-he,m3]⟩⟩,m3⟩)
 simp at h1 h2;omega
theorem A4R {l:List (Int×Int)} {a b:Nat} {x y:Nat}:Conn (l++[((a:Int),(b:Int))]) x y↔Conn l x y∨(Conn l a x∨Conn l b x)∧(Conn l a y∨Conn l b y):=by
 constructor
 ·intro h
  induction h with
  | refl=>exact .inl .refl
  | @step u w _ hs ih=>
   have hor:(((u:Int),(w:Int))∈l∨((w:Int),(u:Int))∈l)∨(u=a∧w=b)∨(u=b∧w=a):=by
    rcases hs with h | h<;>rcases XJ.1 h with h | h
    ·exact .inl (.inl h)
    ·simp at h; exact .inr (.inl ⟨by omega,by omega⟩)
    ·exact .inl (.inr h)
    ·simp at h; exact .inr (.inr ⟨by omega,by omega⟩)
   rcases hor with h | ⟨rfl,rfl⟩ | ⟨rfl,rfl⟩
   ·rcases ih with ih | ⟨i1,i2⟩
    ·exact .inl (ih.step h)
    ·exact .inr ⟨i1,i2.imp (fun q=>q.step h) (fun q=>q.step h)⟩
   ·rcases ih with ih | ⟨i1,i2⟩
    ·exact .inr ⟨.inl ih.symm,.inr .refl⟩
    ·exact .inr ⟨i1,.inr .refl⟩
   ·rcases ih with ih | ⟨i1,i2⟩
    ·exact .inr ⟨.inr ih.symm,.inl .refl⟩
    ·exact .inr ⟨i1,.inl .refl⟩
 ·have hm: ∀{u w},Conn l u w->Conn (l++[((a:Int),(b:Int))]) u w:=fun h=>h.mono fun p hp=>Qw0 _ hp;have hab:Conn (l++[((a:Int),(b:Int))]) a b:= .one (.inl (by simp));rintro (h | ⟨h1,h2⟩)
  ·exact hm h
  ·rcases h1 with h1 | h1<;>rcases h2 with h2 | h2
   ·exact (hm h1).symm.trans (hm h2)
   ·exact (hm h1).symm.trans (hab.trans (hm h2))
   ·exact (hm h1).symm.trans (hab.symm.trans (hm h2))
   ·exact (hm h1).symm.trans (hm h2)
theorem A5t (N:Nat) (l:List (Int×Int)):Eqv N (Conn l):=⟨fun _ _=> .refl,fun _ _ _ _ h=>h.symm,fun _ _ _ _ _ _ h1 h2=>h1.trans h2⟩
open Classical in
theorem B65 {g:G} {n:Nat} (hc:checkG g=0) (hn:g.n=n):A1K g.es n n=ncls n (Conn (endsL g.es)):=by
 have h12:=(A0h.1 hc).1;have h1:=A5P hc hn n (QQ _);rw [B0Y] at h1;have h2:A1K g.es n n=((List.range n).filter fun v=>decide ((genS (endsL g.es)).1[v]? =some v)).length:=by omega
 rw [h2];unfold ncls;congr 1;refine Qj9 fun v hv=> ?_;have hv':=XQ.1 hv;have hin:B89 (endsL g.es):=fun p hp=>by have:=A2f hc hn p hp; omega
 rw [decide_eq_decide,A3O hin (by omega)];constructor
 ·intro H y hy hcn;exact Nat.le_of_not_lt fun hlt=>H ⟨y,hlt,hcn.symm⟩
 ·rintro H ⟨u,hu,hcn⟩;have:=H u (by omega) hcn.symm;omega
structure Emb (E n:Nat) (L:List (Int×Int)) (s:Nat->Nat) (g:Nat->Nat):Prop where
 len:L.length=E
 perm:PermN (2*E) s
 lt: ∀x,x<2*E->g x<n
 ends: ∀k,k<E->L[k]? =some (((g (2*k):Nat):Int),((g (2*k+1):Nat):Int))
 keep: ∀x,x<2*E->g (s x)=g x
section
variable {E n:Nat} {L:List (Int×Int)} {s g:Nat->Nat}
end
theorem B4Y {l:List Int} (hn:l.Nodup) {s:Nat->Nat} (hs: ∀x:Nat,(x:Int)∈l->((s x:Nat):Int)=A8E l (x:Int)) {x:Nat} (hx:(x:Int)∈l): ∀k,l[(l.idxOf (x:Int)+k)%l.length]? =some ((it s k x:Nat):Int)
 | 0=>by
  obtain ⟨h1,h2⟩:=A33 hx;rw [Nat.add_zero,Vx h1,h2]; rfl
 | k+1=>by
  have ih:=B4Y hn hs hx k;obtain ⟨h1,h2⟩:=A33 hx;have hm:=Qy ih;have hnx:=hs _ hm;unfold A8E at hnx;rw [C2F hn ih] at hnx;have hlt:((l.idxOf (x:Int)+k)%l.length+1)%l.length<l.length:=VZ _ (by omega);have e:((l.idxOf (x:Int)+k)%l.length+1)%l.length=(l.idxOf (x:Int)+(k+1))%l.length:=by rw [Nat.mod_add_mod]; rfl
  rw [e] at hnx hlt;rw [Qz,Qq hlt,Option.getD_some] at hnx;rw [Qq hlt];show _=some (((s (it s k x)):Nat):Int);rw [hnx]
theorem C3F {l:List Int} (hn:l.Nodup) {s:Nat->Nat} (hs: ∀x:Nat,(x:Int)∈l->((s x:Nat):Int)=A8E l (x:Int)) {x y:Nat} (hx:(x:Int)∈l) (hy:(y:Int)∈l):A3C s x y:=by
 obtain ⟨h1,h2⟩:=A33 hx;obtain ⟨h3,h4⟩:=A33 hy;refine ⟨l.idxOf (y:Int)+(l.length-l.idxOf (x:Int)),?_⟩;have h5:=B4Y hn hs hx (l.idxOf (y:Int)+(l.length-l.idxOf (x:Int)));rw [show l.idxOf (x:Int)+(l.idxOf (y:Int)+(l.length-l.idxOf (x:Int)))=l.idxOf (y:Int)+l.length by omega,Nat.add_mod_right,Vx h3,h4] at h5;have:=Jw h5;omega
theorem A4h (n:Nat):ncls n (Conn [])=n:=by
 have:=A8Z (N:=n) (n:=n) (fun x=>x) (fun x hx=>hx) (fun v hv=>⟨v,hv,rfl⟩);rw [<-A2o (R:=Conn []) (S:=fun x y=>x=y) fun x y _ _=> ?_] at this
 ·exact this
 ·constructor
  ·intro hc;cases hc with
   | refl=>rfl
   | step _ hs=>simp at hs
  ·rintro rfl; exact .refl
open Classical in
theorem A63 {N:Nat} {R:Nat->Nat->Prop} (hR:Eqv N R) (h:ncls N R=1) {x y:Nat} (hx:x<N) (hy:y<N):R x y:=by
 unfold ncls at h;generalize hl:List.filter _ (List.range N)=l at h;have hmem: ∀h,h∈l↔h<N∧ ∀y,y<N->R h y->h≤y:=fun h=>by rw [<-hl]; simp
 have lead: ∀x,x<N-> ∃m,m<N∧R x m∧m∈l:=fun x hx=>by
  obtain ⟨m,m1,⟨m2,m3⟩,m4⟩:=A7K (P:=fun y=>y<N∧R x y) ⟨hx,hR.refl x hx⟩;exact ⟨m,m2,m3,(hmem m).2 ⟨m2,fun y hy hr=>m4 y ⟨hy,hR.trans x m y hx m2 hy m3 hr⟩⟩⟩
 obtain ⟨a,a1,a2,a3⟩:=lead x hx;obtain ⟨b,b1,b2,b3⟩:=lead y hy;obtain ⟨c,rfl⟩: ∃c,l=[c]:=List.length_eq_one_iff.1 h;have e:a=b:=by simp at a3 b3; rw [a3,b3]
 subst e;exact hR.trans x a y hx a1 hy a2 (hR.symm y a hy a1 b2)
def sR (L:List (Int×Int)) (ar:List (List Int)) (x:Nat):Nat:=(nextR L ar x).toNat
def gR (L:List (Int×Int)) (x:Nat):Nat:=(atL L x).toNat
theorem A59 {r:R} (hr:ROk r):Emb (endsL r.es).length r.n.toNat (endsL r.es) (sR (endsL r.es) r.ar) (gR (endsL r.es)):=by
 refine ⟨rfl,⟨fun x hx=> ?_,fun x y hx hy e=> ?_⟩,fun x hx=> ?_,fun k hk=> ?_,fun x hx=> ?_⟩
 ·have:=hr.next hx; unfold sR; omega
 ·have h1:=hr.next hx;have h2:=hr.next hy;unfold sR at e;exact hr.next_inj hx hy (by omega)
 ·have:=A1I hr.c hx; unfold gR; omega
 ·have h1:=A1I hr.c (show 2*k<2*(endsL r.es).length by omega);have h2:=A1I hr.c (show 2*k+1<2*(endsL r.es).length by omega);have e:=Qq hk;have a1:atL (endsL r.es) (2*k)=(endsL r.es)[k].1:=by
   unfold atL; rw [if_pos (by omega),show 2*k / 2=k by omega,Qz,e]; rfl
  have a2:atL (endsL r.es) (2*k+1)=(endsL r.es)[k].2:=by
   unfold atL; rw [if_neg (by omega),show (2*k+1) / 2=k by omega,Qz,e]; rfl
  rw [e];congr 1;refine Prod.ext ?_ ?_
  ·show _=(((atL (endsL r.es) (2*k)).toNat:Nat):Int); rw [<-a1]; omega
  ·show _=(((atL (endsL r.es) (2*k+1)).toNat:Nat):Int); rw [<-a2]; omega
 ·show (atL (endsL r.es) (sR (endsL r.es) r.ar x)).toNat=(atL (endsL r.es) x).toNat;unfold sR;rw [(hr.next hx).2.2]
structure TF (F:List Nat) (rt dp:Nat->Nat):Prop where
 len:F.length=12
 lt: ∀i (h:i<F.length),F[i]<12
 same: ∀i (h:i<F.length),rt F[i]=rt i
 self: ∀i (h:i<F.length),F[i]=i->rt i=i
 down: ∀i (h:i<F.length),F[i]≠i->dp F[i]<dp i
 rlt: ∀i,i<12->rt i<12
 fix: ∀i,i<12->F[rt i]? =some (rt i)
theorem TF.zero:TF (List.range 12) (fun v=>v) (fun _=>0):=
 ⟨by simp,fun i h=>by simpa using h,fun i h=>by simp,fun i h _=>rfl,fun i h e=>absurd (by simp) e,fun i h=>h,fun i h=>by simp [h]⟩
section
variable {F:List Nat} {rt dp:Nat->Nat}
theorem TF.idem (h:TF F rt dp) {i:Nat} (hi:i<12):rt (rt i)=rt i:=by
 have hf:=h.fix i hi;obtain ⟨q1,q2⟩:=Qx.1 hf;exact h.self _ q1 q2
theorem TF.join (h:TF F rt dp) {a b:Nat} (ha:a<12) (hb:b<12) (hne:rt a≠rt b):
  TF (F.set (rt a) (rt b)) (fun v=>if rt v=rt a then rt b else rt v) (fun v=>if rt v=rt a then dp v+dp (rt b)+1 else dp v):=by
 have ra:=h.rlt a ha;have rb:=h.rlt b hb;have ia:=h.idem ha;have ib:=h.idem hb;have fa:=h.fix a ha;have fb:=h.fix b hb;have hl:=h.len;refine ⟨by rw [Yw]; exact hl,fun i hi=> ?_,fun i hi=> ?_,fun i hi e=> ?_,fun i hi e=> ?_,fun i hi=> ?_,fun i hi=> ?_⟩
 ·rw [Qx7]; split
  ·exact rb
  ·exact h.lt i (by simpa using hi)
 ·have hi':i<F.length:=by simpa using hi
  rw [Qx7];by_cases e:rt a=i
  ·rw [if_pos e];subst e;simp only [ia,ib,if_true];rw [if_neg (fun e=>hne e.symm)]
  ·rw [if_neg e];simp only [h.same i hi']
 ·have hi':i<F.length:=by simpa using hi
  rw [Qx7] at e;by_cases e2:rt a=i
  ·rw [if_pos e2] at e; exact absurd (e2.trans e.symm) hne
  ·rw [if_neg e2] at e;have:=h.self i hi' e;simp only [this];rw [if_neg (fun e=>e2 e.symm)]
 ·have hi':i<F.length:=by simpa using hi
  rw [Qx7] at e ⊢;by_cases e2:rt a=i
  ·subst e2;simp only [if_true,ia,ib];rw [if_neg (fun e=>hne e.symm)];omega
  ·rw [if_neg e2] at e ⊢;have hs:=h.same i hi';have hd:=h.down i hi' e;simp only [hs];split<;>omega
 ·split
  ·exact rb
  ·exact h.rlt i hi
 ·by_cases e:rt i=rt a
  ·rw [if_pos e,QX hne]; exact fb
  ·rw [if_neg e,QX (fun x=>e x.symm)]; exact h.fix i hi
theorem TF.stay (h:TF F rt dp) {a b:Nat} (ha:a<12) (e:rt a=rt b):F.set (rt a) (rt b)=F:=by
 have fa:=h.fix a ha;obtain ⟨q1,q2⟩:=Qx.1 fa;apply Zx;intro i;by_cases hi:rt a=i
 ·subst hi; rw [QW q1,fa,e]
 ·rw [QX hi]
end
structure TC (L:List (Int×Int)) (F:List Nat) (rt dp:Nat->Nat):Prop where
 tf:TF F rt dp
 conn: ∀u w,u<12->w<12->(rt u=rt w↔Conn L u w)
def TCe (L:List (Int×Int)) (F:List Nat):Prop:= ∃rt dp,TC L F rt dp
theorem B2q {u w:Nat}:Conn [] u w↔u=w:=by
 constructor
 ·intro h;cases h with
  | refl=>rfl
  | step _ hs=>simp at hs
 ·rintro rfl; exact .refl
theorem TCe.zero:TCe [] (List.range 12):=⟨_,_,TF.zero,fun u w _ _=>B2q.symm⟩
theorem TC.snoc {L:List (Int×Int)} {F:List Nat} {rt dp:Nat->Nat} (h:TC L F rt dp) {a b:Nat} (ha:a<12) (hb:b<12):TCe (L++[((a:Int),(b:Int))]) (F.set (rt a) (rt b)):=by
 obtain ⟨tf,cn⟩:=h;by_cases e:rt a=rt b
 ·rw [tf.stay ha e];refine ⟨rt,dp,tf,fun u w hu hw=> ?_⟩;have hc:=(cn a b ha hb).1 e;rw [A4R,cn u w hu hw];constructor
  ·exact .inl
  ·rintro (q | ⟨q1,q2⟩)
   ·exact q
   ·rcases q1 with q1 | q1<;>rcases q2 with q2 | q2
    ·exact q1.symm.trans q2
    ·exact q1.symm.trans (hc.trans q2)
    ·exact q1.symm.trans (hc.symm.trans q2)
    ·exact q1.symm.trans q2
 ·refine ⟨_,_,tf.join ha hb e,fun u w hu hw=> ?_⟩;rw [A4R];have c1:=cn u w hu hw;have c2:=cn a u ha hu;have c3:=cn b u hb hu;have c4:=cn a w ha hw;have c5:=cn b w hb hw;rw [<-c1,<-c2,<-c3,<-c4,<-c5];generalize rt u=p at*;generalize rt w=q at*;generalize rt a=c at*;generalize rt b=d at*;by_cases x:p=c<;>by_cases y:q=c
  ·rw [if_pos x,if_pos y]; omega
  ·rw [if_pos x,if_neg y]; omega
  ·rw [if_neg x,if_pos y]; omega
  ·rw [if_neg x,if_neg y]; omega
def A4t (M:List (Int×Int)):Prop:= ∀k p,M[k]? =some p-> ¬Conn (M.take k) p.1.toNat p.2.toNat
theorem A24 {M:List (Int×Int)} {p:Int×Int}:A4t (M++[p])↔A4t M∧ ¬Conn M p.1.toNat p.2.toNat:=by
 constructor
 ·intro h;refine ⟨fun k q hq=> ?_,?_⟩
  ·have hk:=(Qx.1 hq).1;have:=h k q (by rw [Qv hk]; exact hq);rwa [ZQ (by omega)] at this
  ·have:=h M.length p (by rw [QV (by omega)]; simp);rwa [ZQ (by omega),Zy] at this
 ·rintro ⟨h1,h2⟩ k q hq;rw [List.getElem?_append] at hq;split at hq
  ·rename_i hk;rw [ZQ (by omega)];exact h1 k q hq
  ·have hk:k=M.length:=by
    have:=(Qx.1 hq).1;simp at this; omega
   subst hk;simp at hq; subst hq;rw [ZQ (by omega),Zy];exact h2
theorem A4i:A4t []:=fun k p h=>by simp at h
theorem A37 {n:Nat} {M:List (Int×Int)} {a b:Nat} (h:Conn M a b):ncls n (Conn (M++[((a:Int),(b:Int))]))=ncls n (Conn M):=A2o fun x y _ _=>by
 rw [A4R];constructor
 ·rintro (q | ⟨q1,q2⟩)
  ·exact q
  ·rcases q1 with q1 | q1<;>rcases q2 with q2 | q2
   ·exact q1.symm.trans q2
   ·exact q1.symm.trans (h.trans q2)
   ·exact q1.symm.trans (h.symm.trans q2)
   ·exact q1.symm.trans q2
 ·exact .inl
theorem A2I {n:Nat} {M:List (Int×Int)} {a b:Nat} (ha:a<n) (hb:b<n) (h: ¬Conn M a b):ncls n (Conn (M++[((a:Int),(b:Int))]))+1=ncls n (Conn M):=
 B7S (A5t n M) ha hb h fun x y _ _=>A4R
open Classical in
theorem C1B {n:Nat} {R:Nat->Nat->Prop} (h:0<n):1≤ncls n R:=by
 unfold ncls;exact List.length_pos_of_mem (ZV.2 ⟨XQ.2 h,decide_eq_true fun y _ _=>Xj _⟩)
def InN (n:Nat) (M:List (Int×Int)):Prop:= ∀p,p∈M->(0≤p.1∧p.1<n)∧(0≤p.2∧p.2<n)
theorem A4j {n:Nat} (M:List (Int×Int)) (h:InN n M):n≤ncls n (Conn M)+M.length∧(A4t M↔ncls n (Conn M)+M.length=n):=by
 revert h;refine A2H (P:=fun M=>InN n M->n≤ncls n (Conn M)+M.length∧(A4t M↔ncls n (Conn M)+M.length=n)) ?_ ?_ M
 ·intro _;rw [A4h];exact ⟨QQ _,fun _=>rfl,fun _=>A4i⟩
 ·intro M p ih h;obtain ⟨i1,i2⟩:=ih fun q hq=>h q (by simp [hq]);have hp:=h p (by simp);obtain ⟨p1,p2⟩:=p;obtain ⟨a,rfl⟩:=XW hp.1.1;obtain ⟨b,rfl⟩:=XW hp.2.1;have ha:a<n:=by have:=hp.1.2; simp only at this; omega
  have hb:b<n:=by have:=hp.2.2; simp only at this; omega
  rw [A24,Xv,List.length_singleton,i2];show _∧(_∧ ¬Conn M a b↔_);by_cases hc:Conn M a b
  ·have e:ncls n (Conn (M++[(((a:Nat):Int),((b:Nat):Int))]))=_:=A37 hc;rw [e];exact ⟨by omega,fun ⟨_,q⟩=>absurd hc q,fun q=>by omega⟩
  ·have e:ncls n (Conn (M++[(((a:Nat):Int),((b:Nat):Int))]))+1=_:=A2I ha hb hc;exact ⟨by omega,fun ⟨q,_⟩=>by omega,fun q=>⟨by omega,hc⟩⟩
def pkL (L:List (Int×Int)) (t:List Int):List (Int×Int):=t.map fun x=>L.getD x.toNat (0,0)
theorem A2r (L:List (Int×Int)) (t:List Int):(pkL L t).length=t.length:=by simp [pkL]
theorem A9a {n:Nat} {L:List (Int×Int)} {t:List Int} (hL:InN n L) (ht: ∀x,x∈t->0≤x∧x<L.length):InN n (pkL L t):=fun p hp=>by
 obtain ⟨x,hx,rfl⟩:=QJ.1 hp;have:=ht x hx;rw [Qz,Qq (by omega)];exact hL _ (Xw _)
open Classical in
noncomputable def treeB (n:Nat) (L:List (Int×Int)) (t:List Int):Bool:=decide ((t.length:Int)=n-1∧ncls n (Conn (pkL L t))=1)
theorem B66 {n:Nat} (h0:0<n) {L:List (Int×Int)} {t:List Int} (hL:InN n L) (ht: ∀x,x∈t->0≤x∧x<L.length):treeB n L t=true↔A4t (pkL L t)∧(t.length:Int)=n-1:=by
 unfold treeB;rw [decide_eq_true_eq,(A4j _ (A9a hL ht)).2,A2r];omega
theorem A5u {n:Int}: ∀{p:Option Int} {l:List Int},A2h n p l=0-> ∀x,x∈l->0≤x∧x<n
 | _,[],_,x,hx=>by cases hx
 | p,v::l,h,x,hx=>by
  rw [A2h] at h;by_cases hv:0≤v∧v<n
  ·rw [if_neg (by omega)] at h;split at h
   ·omega
   ·rcases Qw.1 hx with rfl | hx
    ·exact hv
    ·exact A5u h x hx
  ·rw [if_pos hv] at h; omega
noncomputable def A2A (g:G) (t:List Int):Int:=
 if A0r g≠0 then A0r g else if A2h (endsL g.es).length none t≠0 then A2h (endsL g.es).length none t
 else if (t.length:Int)≠g.n-1 then 8 else if treeB g.n.toNat (endsL g.es) t=true then 0 else 3
theorem A9b:ACall Tryz.prog 123 [] (tF (List.range 12)):=by
 refine ACall.of_body Tryz.func123 rfl (by kernel_rfl) ?_;simp only [entry,Tryz.ntmps123];refine zU ?_;refine zR Qw9 Qw9 Qw9 ?_;refine AWp.loopS (α:=Nat) 11 (fun i=>[(0,.c (.ptr 0 0)),(1,.c (.ptr 1 0)),(3,.c (.int .i64 (i:Int)))]) (fun i=>[.box (fC (List.replicate 12 0)),.box (fC (A7c i))]) (fun i=>i≤12) (fun i=>12-i) (0) (hk:=Weak.headL 2 11 [0,1,3] (zV @A0Z)) (h0:=?_) (round:=fun i hI=>?_)
 ·exact Xj _
 ·by_cases hlt:i<12
  ·have hset:=A8H hlt;have hlen:=A8I hI;generalize A7c i=F at*;refine zR (zc @A0V (zc @hlen (zc @A7z (zc @A4N (zc @hset Qw9))))) Qw9 Qw9 ?_;refine ⟨i+1,Weak.headN 2 11 [0,1,3] (zV @A0Z),?_,?_⟩
   ·exact hlt
   ·omega
  ·have ei:i=12:=by omega
   subst ei;rw [B0S];have hl:(List.range 12).length=12:=Vj;generalize List.range 12=F at*;have ht:(fC F).take 12=fC F:=ZJ (by rw [A0V,hl]; exact QQ _);have hs:=A34 (List.replicate 12 0) F (by simp [hl]);have hlr:(List.replicate 12 0:List Nat).length=12:=by simp
   generalize List.replicate 12 0=Z at*;refine zR (zc @A0V (zc @hl (zc @hlr (zc @ht (zc @hs (zc @A4g Qw9)))))) Qw9 Qw9 ?_;have hm:=A60 [Blk.box (fC F),Blk.box (fC F)] F;simp [A0y,A0x,Blk.cells,ty,Tryz.results123,A0s,A0t,toT,A0d,A0b,A0c,A0a,hm,hl,ht,A0V,tF]
theorem C1C {F:List Nat} {rt dp:Nat->Nat} (h:TF F rt dp) (v:Nat) (hv:v<12):ACall Tryz.prog 166 [.t (.rptr (fT F)),A0k v] (A0k (rt v)):=by
 have hF:=h.len;refine ACall.of_body Tryz.func166 rfl (by kernel_rfl) ?_;simp only [entry,Tryz.ntmps166,A0k];refine zU ?_;refine zR Qw9 Qw9 Qw9 ?_;refine AWp.loopS (α:=Nat) 18 (fun u=>[(0,.c (.rptr (fT F))),(1,.c (.int .i64 (u:Int)))]) (fun u=>[]) (fun u=>u<12∧rt v=rt u) (fun u=>dp u) (v) (hk:=Weak.headL 0 18 [0,1] (zV @A0Z)) (h0:=?_) (round:=fun u hI=>?_)
 ·exact ⟨hv,rfl⟩
 ·obtain ⟨hu,hx⟩:=hI;have hul:u<F.length:=by omega
  have e1:=B3y hul;have e2:=h.same u hul;have e3:=h.lt u hul;have e4:=h.self u hul;have e5:=h.down u hul
  repeat' (first|((first|(refine zT ?_;intro K' hK')|(refine zG ?_ ?_<;>(try refine zH ?_)<;>intro hguard<;>(try exact zX)<;>try intro K' hK'))<;>((try simp+contextual only [go_sem,e1,Int.toNat_natCast,Yj]);(repeat' first|(with_reducible refine hK' _ _ ?_;clear hK' K')|exact zY|with_reducible refine Qw8 ?_ ?_|(with_reducible intro hpath;try exact zP)|(refine hK' _ _ ?_;clear hK' K')|fail);try refine zS ?_))|(refine zE ?_;refine hK _ _ ?_;clear hK K)|(refine zN ?_;try refine zS ?_)|refine zA ?_|(refine zB ?_;intro K hK)|(refine zC ?_ ?_<;>(try refine zH ?_)<;>intro hcond<;>try exact zX)|fail)
  ·have hne:F[u]≠u:=by omega
   refine ⟨F[u],Weak.headN 0 18 [0,1] (zV @A0Z),?_,?_⟩
   ·exact ⟨e3,by rw [hx,e2]⟩
   ·exact e5 hne
  ·have e:rt v=u:=by rw [hx]; exact e4 (by omega)
   simp [A0y,A0x,Blk.cells,ty,Tryz.results166,A0s,A0t,toT,A0d,A0b,A0c,A0a,A0k,e]
theorem A7j {F:List Nat} {rt dp:Nat->Nat} (h:TF F rt dp) (v:Nat) (hv:v<12) {H:List Blk} {id:Nat} (hb:H[id]? =some (.box (fC F))):
  ACallH Tryz.prog 166 H [.c (.ptr id 0),.c (.int .i64 (v:Int))] H (.c (.int .i64 (rt v:Nat))):=
 ACall.hb (C1C h v hv) (by simp [toT,A0d,A0b,hb,Blk.cells,B0R,A0a,A0k]) rfl
theorem A7R {F:List Nat} {rt dp:Nat->Nat} (h:TF F rt dp) (a b:Nat) (ha:a<12) (hb:b<12) {H:List Blk} {id:Nat} (hid:H[id]? =some (.box (fC F))):
  ACallH Tryz.prog 124 H [.c (.ptr id 0),.agg [.int .i64 (a:Int),.int .i64 (b:Int)]] (H.set id (.box (fC (F.set (rt a) (rt b))))++[.box [.int .i64 (a:Int),.int .i64 (b:Int)]]) (.c (.bool (!decide (rt a=rt b)))):=by
 have hil:id<H.length:=(Qx.1 hid).1;have hid2: ∀B:Blk,(H++[B])[id]? =some (.box (fC F)):=fun B=>by rw [Qv hil]; exact hid
 have hst: ∀B X:Blk,(H++[B]).set id X=H.set id X++[B]:=fun B X=>Qq7 _ _ hil;have hnew: ∀B:Blk,(H++[B])[H.length]? =some B:=fun B=>by simp
 have rx:=A7j h a ha (hid2 (.box [.int .i64 (a:Int),.int .i64 (b:Int)]));have ry:=A7j h b hb (hid2 (.box [.int .i64 (a:Int),.int .i64 (b:Int)]));have la:=h.rlt a ha;have lb:=h.rlt b hb;have hlen:=h.len;generalize rt a=x at*;generalize rt b=y at*;refine ACallH.of_body Tryz.func124 rfl (by kernel_rfl) ?_;simp only [entry,Tryz.ntmps124,List.length_cons,List.length_nil,Nat.reduceAdd,Nat.reduceSub,List.replicate_succ,List.replicate_zero,List.cons_append,List.nil_append];by_cases e:x=y
 ·subst e;rw [decide_eq_true rfl];refine zJ Qw9 (zc @A0V (zc @A7z (zc @A4N (zc @hlen (zc @hid2 (zc @hst (zc @hnew Qw9))))))) Qw9 (zc rx (zc ry Qw9)) Qw9 ?_;simp [A4D,A1Y,A0s,A1X,Tryz.results124]
 ·rw [decide_eq_false e];have eI: ¬((x:Int)=(y:Int)):=by omega
  refine zJ Qw9 (zc @A0V (zc @A7z (zc @A4N (zc @hlen (zc @hid2 (zc @hst (zc @hnew (zc @eI Qw9)))))))) Qw9 (zc rx (zc ry Qw9)) Qw9 ?_;simp [A4D,A1Y,A0s,A1X,Tryz.results124]
theorem A2O {g:G} {n:Nat} (hc:checkG g=0) (hn:g.n=n):connB g=decide (ncls n (Conn (endsL g.es))=1):=by
 unfold connB;rw [show g.n.toNat=n by omega,B65 hc hn]
theorem B4Z (g:G) (hl:g.es.length≤40):ACall Tryz.prog 76 [tG g] (.tup [A0C (if A0r g≠0 then [] else endsL g.es),A0k (A0r g)]):=by
 have hE:=B3p g (by omega);have hg:=A9b;by_cases hc:checkG g=0
 case neg=>
  have ej:A0r g=checkG g:=by unfold A0r; rw [if_pos hc]
  rw [ej,if_pos hc];rw [if_pos hc] at hE;generalize checkG g=E at*;obtain ⟨n,es⟩:=g;refine ACall.of_body Tryz.func76 rfl (by kernel_rfl) ?_;simp only [entry,Tryz.ntmps76,tG];refine zU ?_;refine zR (zc @hc Qw9) (zc hE Qw9) Qw9 ?_;simp [A0y,A0x,Blk.cells,ty,Tryz.results76,A0s,A0t,toT,A0d,A0b,A0c,A0a,A0k,A0C,A1c]
 have h12:=(A0h.1 hc).1;obtain ⟨k,hk⟩:=XW (show 0≤g.n by omega);have hk':g.n=(k:Nat):=hk;have hcp:=A2O hc hk';have hin:InN k (endsL g.es):=fun p hp=>A2f hc hk' p hp;have hk0:0<k:=by omega
 have hk12:k≤12:=by omega
 have hll:(endsL g.es).length≤2000:=by
  have:=A6p (es:=g.es) fun e he=>by have:=(A0h.1 hc).2.1 e he; unfold okE at this; omega
  omega
 have ej:A0r g=if ncls k (Conn (endsL g.es))=1 then 0 else 13:=by
  unfold A0r;rw [if_neg (by omega),hcp];by_cases h:ncls k (Conn (endsL g.es))=1
  ·rw [if_pos h,if_pos (by simp [h])]
  ·rw [if_neg h,if_neg (by simp [h])]
 rw [ej];rw [if_neg (by omega)] at hE;clear ej hcp hc h12 hk';obtain ⟨n,es⟩:=g;simp only at hE hk hin hll ⊢;subst hk;generalize endsL es=L at*;have hr12:(List.range 12).length=12:=Vj;have hz0:=TCe.zero;have hnk:=A4h k;have hps:=C1B (R:=Conn L) hk0;generalize hR:List.range 12=R at*;have hof:(fT R).map A04=fC R:=B6v R;have hst:=A34 A23 R (by rw [hr12]; rfl);have hz:fC A23=[.int .i64 0,.int .i64 0,.int .i64 0,.int .i64 0,.int .i64 0,.int .i64 0,.int .i64 0,.int .i64 0,.int .i64 0,.int .i64 0,.int .i64 0,.int .i64 0]:=rfl;rw [hz] at hst;unfold tF at hg;change ACall _ _ [tG ⟨((k:Nat):Int),es⟩] _ at hE;show ACall _ _ [tG ⟨((k:Nat):Int),es⟩] _;refine ACall.of_body Tryz.func76 rfl (by kernel_rfl) ?_;simp only [entry,Tryz.ntmps76,tG];refine zU ?_;refine zR (zc @A02 (zc @A0V (zc @A4g (zc @hof (zc @hst (zc @hr12 Qw9)))))) (zc hE (zc hg Qw9)) Qw9 ?_;refine AWp.loopS (α:=(Nat×Int×List Nat)) 35 (fun s=>[(4,.c (.slice (A1c L) .none)),(6,.c (.ptr 1 0)),(7,.c (.int .i64 s.2.1)),(21,.c (.slice (A1c L) .none)),(22,.c (.int .i64 (L.length:Int))),(23,.c (.int .i64 (s.1:Int)))]) (fun s=>[.box [.int .i64 (k:Int),.slice (A0f es) .none],.box (fC s.2.2)]) (fun s=>s.1≤L.length∧s.2.1=(ncls k (Conn (L.take s.1)):Nat)∧TCe (L.take s.1) s.2.2) (fun s=>L.length-s.1) ((0,(k:Int),R)) (hk:=Weak.headL 2 35 [4,6,7,21,22,23] (zV @A0Z)) (h0:=?_) (round:=fun s hI=>?_)
 ·exact ⟨Xj _,by simp only [List.take_zero]; rw [hnk],hz0⟩
 ·obtain ⟨i,c,F⟩:=s;obtain ⟨hi,hcc,hT⟩:=hI;simp only at hi hcc hT ⊢;by_cases hlt:i<L.length
  ·have hltI:(i:Int)<L.length:=by omega
   have e0:=Qq hlt;have e1:=A20 e0;have hsn:=take_snoc e0;have hrng:=hin _ (Xw hlt);generalize L[i]=p at*;obtain ⟨pa,pb⟩:=p;obtain ⟨a,rfl⟩:=XW hrng.1.1;obtain ⟨b,rfl⟩:=XW hrng.2.1;have ha:a<k:=by have:=hrng.1.2; simp only at this; omega
   have hb:b<k:=by have:=hrng.2.2; simp only at this; omega
   change L.take (i+1)=L.take i++[((a:Int),(b:Int))] at hsn;change (A1c L)[i]? =some [.int .i64 (a:Int),.int .i64 (b:Int)] at e1;obtain ⟨rt,dp,tc⟩:=hT;have tn:=tc.snoc (a:=a) (b:=b) (by omega) (by omega);rw [<-hsn] at tn;have hJ:=A7R tc.tf a b (by omega) (by omega) (H:=[.box [.int .i64 (k:Int),.slice (A0f es) .none],.box (fC F),.box [.int .i64 (a:Int),.int .i64 (b:Int)]]) (id:=1) rfl;have hcn:=tc.conn a b (by omega) (by omega);have hcb:(ncls k (Conn (L.take i)):Int)≤12:=by
    have:ncls k (Conn (L.take i))≤k:=by
     unfold ncls;refine Yk (Jy _ _) ?_;rw [Vj]; exact QQ _
    omega
   by_cases e:rt a=rt b
   ·have hs:=A37 (n:=k) (hcn.1 e);rw [<-hsn] at hs;rw [decide_eq_true e,VJ] at hJ;simp only [List.set_cons_succ,List.set_cons_zero,List.cons_append,List.nil_append] at hJ;refine zJ Qw9 (zc @hltI (zc @e1 (zc @A02 Qw9))) Qw9 (zc hJ Qw9) Qw9 ?_;refine ⟨(i+1,c,F.set (rt a) (rt b)),Weak.headN 2 35 [4,6,7,21,22,23] (zV @A0Z),?_,?_⟩
    ·exact ⟨hlt,by simp only; omega,tn⟩
    ·simp only; omega
   ·have hs:=A2I (n:=k) ha hb (fun h=>e (hcn.2 h));rw [<-hsn] at hs;rw [decide_eq_false e,Qq8] at hJ;simp only [List.set_cons_succ,List.set_cons_zero,List.cons_append,List.nil_append] at hJ;refine zJ Qw9 (zc @hltI (zc @e1 (zc @A02 Qw9))) Qw9 (zc hJ Qw9) Qw9 ?_;refine ⟨(i+1,c-1,F.set (rt a) (rt b)),Weak.headN 2 35 [4,6,7,21,22,23] (zV @A0Z),?_,?_⟩
    ·exact ⟨hlt,by simp only; omega,tn⟩
    ·simp only; omega
  ·have ei:i=L.length:=by omega
   subst ei;rw [Zy] at hcc;have hnl: ¬((L.length:Int)<L.length):=by omega
   by_cases h1:ncls k (Conn L)=1
   ·rw [if_pos h1,if_neg (by omega)];have hc1: ¬(1<c):=by omega
    refine zR (zc @hnl (zc @hc1 Qw9)) Qw9 Qw9 ?_;simp [A0y,A0x,Blk.cells,ty,Tryz.results76,A0s,A0t,toT,A0d,A0b,A0c,A0a,A0k,A0C]
   ·rw [if_neg h1,if_pos (by omega)];have hc1:1<c:=by omega
    refine zR (zc @hnl (zc @hc1 Qw9)) Qw9 Qw9 ?_;simp [A0y,A0x,Blk.cells,ty,Tryz.results76,A0s,A0t,toT,A0d,A0b,A0c,A0a,A0k,A0C,A1c]
theorem B5a {A B:List (Int×Int)} (h:A4t (A++B)):A4t A:=fun k p hp=>by
 have hk:=(Qx.1 hp).1;have:=h k p (by rw [Qv hk]; exact hp);rwa [ZQ (by omega)] at this
theorem C1D (n:Nat) (L:List (Int×Int)) (t:List Int) (h0:0<n) (hn:n≤12) (hL:InN n L) (ht: ∀x,x∈t->0≤x∧x<L.length) (hLl:L.length<2^40) (htl:t.length<2^40):
  ACall Tryz.prog 181 [A0k n,A0C L,A0m t] (A0z (treeB n L t)):=by
 have hg:=A9b;have htb:=B66 h0 hL ht;have hr12:(List.range 12).length=12:=Vj;have hz0:=TCe.zero;generalize hR:List.range 12=R at*;have hof:(fT R).map A04=fC R:=B6v R;have hst:=A34 A23 R (by rw [hr12]; rfl);have hz:fC A23=[.int .i64 0,.int .i64 0,.int .i64 0,.int .i64 0,.int .i64 0,.int .i64 0,.int .i64 0,.int .i64 0,.int .i64 0,.int .i64 0,.int .i64 0,.int .i64 0]:=rfl;rw [hz] at hst;unfold tF at hg;refine ACall.of_body Tryz.func181 rfl (by kernel_rfl) ?_;simp only [entry,Tryz.ntmps181,A0C,A0m,A0k];refine zU ?_;refine zR (zc @A0e (zc @A0V (zc @A4g (zc @hof (zc @hst (zc @hr12 Qw9)))))) (zc hg Qw9) Qw9 ?_;refine AWp.loopS (α:=(Nat×List Nat)) 29 (fun s=>[(0,.c (.int .i64 (n:Int))),(1,.c (.slice (A1c L) .none)),(2,.c (.slice (A0p t) .none)),(7,.c (.ptr 0 0)),(11,.c (.slice (A0p t) .none)),(12,.c (.int .i64 (t.length:Int))),(13,.c (.int .i64 (s.1:Int)))]) (fun s=>[.box (fC s.2)]) (fun s=>s.1≤t.length∧TCe (pkL L (t.take s.1)) s.2∧A4t (pkL L (t.take s.1))) (fun s=>t.length-s.1) ((0,R)) (hk:=Weak.headL 1 29 [0,1,2,7,11,12,13] (zV @A0Z)) (h0:=?_) (round:=fun s hI=>?_)
 ·exact ⟨Xj _,hz0,A4i⟩
 ·obtain ⟨i,F⟩:=s;obtain ⟨hi,hT,hac⟩:=hI;simp only at hi hT hac ⊢;by_cases hlt:i<t.length
  ·have hltI:(i:Int)<t.length:=by omega
   have e0:=Qq hlt;have e1:=A0u e0;have hsn:pkL L (t.take (i+1))=pkL L (t.take i)++[L.getD t[i].toNat (0,0)]:=by
    unfold pkL; rw [XX hlt,Jv]; rfl
   have hpre:pkL L t=pkL L (t.take (i+1))++pkL L (t.drop (i+1)):=by
    unfold pkL; rw [<-Jv,WJ]
   have hx:=ht _ (Xw hlt);generalize t[i]=x at*;obtain ⟨z,rfl⟩:=XW hx.1;have hzl:z<L.length:=by have:=hx.2; omega
   have g0:=Qq hzl;have g1:=A20 g0;rw [show ((z:Nat):Int).toNat=z from rfl,Qz,g0,Option.getD_some] at hsn;have hrng:=hL _ (Xw hzl);generalize L[z]=p at*;obtain ⟨pa,pb⟩:=p;obtain ⟨a,rfl⟩:=XW hrng.1.1;obtain ⟨b,rfl⟩:=XW hrng.2.1;have ha:a<n:=by have:=hrng.1.2; simp only at this; omega
   have hb:b<n:=by have:=hrng.2.2; simp only at this; omega
   change pkL L (t.take (i+1))=pkL L (t.take i)++[((a:Int),(b:Int))] at hsn;change (A1c L)[z]? =some [.int .i64 (a:Int),.int .i64 (b:Int)] at g1;change (A0p t)[i]? =some [.int .i64 (z:Int)] at e1;have hzI:(z:Int)<(L.length:Int):=by omega
   obtain ⟨rt,dp,tc⟩:=hT;have tn:=tc.snoc (a:=a) (b:=b) (by omega) (by omega);rw [<-hsn] at tn;have hJ:=A7R tc.tf a b (by omega) (by omega) (H:=[.box (fC F)]) (id:=0) rfl;have hcn:=tc.conn a b (by omega) (by omega);by_cases e:rt a=rt b
   ·have hfalse:treeB n L t=false:=by
     rw [Bool.eq_false_iff];intro h;have:=B5a (hpre▸(htb.1 h).1);rw [hsn,A24] at this;exact this.2 (hcn.1 e)
    rw [decide_eq_true e,VJ] at hJ;simp only [List.set_cons_succ,List.set_cons_zero,List.cons_append,List.nil_append] at hJ;rw [hfalse];refine zJ Qw9 (zc @hltI (zc @e1 (zc @g1 (zc @hzI (zc @A02 (zc @A0e Qw9)))))) Qw9 (zc hJ Qw9) Qw9 ?_;simp [A0y,A0x,Blk.cells,ty,Tryz.results181,A0s,A0t,toT,A0d,A0b,A0c,A0a,A0z]
   ·have hac2:A4t (pkL L (t.take (i+1))):=by
     rw [hsn,A24];exact ⟨hac,fun h=>e (hcn.2 h)⟩
    rw [decide_eq_false e,Qq8] at hJ;simp only [List.set_cons_succ,List.set_cons_zero,List.cons_append,List.nil_append] at hJ;refine zJ Qw9 (zc @hltI (zc @e1 (zc @g1 (zc @hzI (zc @A02 (zc @A0e Qw9)))))) Qw9 (zc hJ Qw9) Qw9 ?_;refine ⟨(i+1,F.set (rt a) (rt b)),Weak.headN 1 29 [0,1,2,7,11,12,13] (zV @A0Z),?_,?_⟩
    ·exact ⟨hlt,tn,hac2⟩
    ·simp only; omega
  ·have ei:i=t.length:=by omega
   subst ei;rw [Zy] at hac;have hnl: ¬((t.length:Int)<t.length):=by omega
   by_cases hq:(t.length:Int)=(n:Int)-1
   ·rw [htb.2 ⟨hac,hq⟩];refine zR (zc @hnl (zc @A0e (zc @hq Qw9))) Qw9 Qw9 ?_;simp [A0y,A0x,Blk.cells,ty,Tryz.results181,A0s,A0t,toT,A0d,A0b,A0c,A0a,A0z]
   ·have hfalse:treeB n L t=false:=by
     rw [Bool.eq_false_iff];exact fun h=>hq (htb.1 h).2
    rw [hfalse];refine zR (zc @hnl (zc @A0e (zc @hq Qw9))) Qw9 Qw9 ?_;simp [A0y,A0x,Blk.cells,ty,Tryz.results181,A0s,A0t,toT,A0d,A0b,A0c,A0a,A0z]
def mulE:List E->Nat->Nat->Int
 | [],_,_=>0
 | e::es,u,v=>(if e.a≠e.b∧((e.a=u∧e.b=v)∨(e.b=u∧e.a=v)) then e.m else 0)+mulE es u v
def sizeE:List E->Int
 | []=>0
 | e::es=>(if e.a≠e.b then e.m else 0)+sizeE es
structure EsOk (n:Nat) (es:List E):Prop where
 rng: ∀e,e∈es->(0≤e.a∧e.a<n)∧(0≤e.b∧e.b<n)∧0≤e.m∧e.m≤50
theorem EsOk.tail {n:Nat} {e:E} {es:List E} (h:EsOk n (e::es)):EsOk n es:=⟨fun x hx=>h.rng x (by simp [hx])⟩
theorem B5b: ∀(es:List E) (u v:Nat),mulE es u v=mulE es v u
 | [],_,_=>rfl
 | e::es,u,v=>by
  unfold mulE;rw [B5b es u v];congr 1;by_cases h:e.a≠e.b∧((e.a=u∧e.b=v)∨(e.b=u∧e.a=v))
  ·rw [if_pos h,if_pos ⟨h.1,h.2.elim (fun q=> .inr ⟨q.2,q.1⟩) (fun q=> .inl ⟨q.2,q.1⟩)⟩]
  ·rw [if_neg h,if_neg (fun q=>h ⟨q.1,q.2.elim (fun q=> .inr ⟨q.2,q.1⟩) (fun q=> .inl ⟨q.2,q.1⟩)⟩)]
theorem B5c: ∀(es:List E) (v:Nat),mulE es v v=0
 | [],_=>rfl
 | e::es,v=>by
  unfold mulE;rw [B5c es v,if_neg (fun q=>by rcases q with ⟨q1,q2 | q2⟩<;>exact q1 (by omega))]; rfl
theorem B0Z {n:Nat}: ∀{es:List E},EsOk n es-> ∀(u v:Nat),0≤mulE es u v
 | [],_,_,_=>Qx6 _
 | e::es,h,u,v=>by
  have:=B0Z h.tail u v;have:=h.rng e (by simp);unfold mulE;split<;>omega
theorem B8Y {n:Nat}: ∀{es:List E},EsOk n es-> ∀{e:E},e∈es->e.a≠e.b-> ∀{u v:Nat},(e.a=u∧e.b=v)∨(e.b=u∧e.a=v)->e.m≤mulE es u v
 | [],_,e,he,_,_,_,_=>by cases he
 | x::es,h,e,he,hne,u,v,huv=>by
  have h1:=B0Z h.tail u v;have h2:=h.rng x (by simp);unfold mulE;rcases Qw.1 he with rfl | he
  ·rw [if_pos ⟨hne,huv⟩]; omega
  ·have:=B8Y h.tail he hne huv;split<;>omega
theorem C3G {g:G} {n:Nat} (hc:checkG g=0) (hn:g.n=n) (hcon:connB g=true):EsOk n g.es∧Mult n (mulE g.es):=by
 have h:=A0h.1 hc;have hE:EsOk n g.es:=⟨fun e he=>by have:=h.2.1 e he; unfold okE at this; omega⟩;refine ⟨hE,B5b _,B0Z hE,B5c _,fun S hS hS'=> ?_⟩;obtain ⟨a,ha,hSa⟩:=hS;obtain ⟨b,hb,hSb⟩:=hS';rw [A2O hc hn,decide_eq_true_eq] at hcon;have hab:=A63 (A5t n _) hcon ha hb;refine XZ fun hx=> ?_;have key: ∀{x y:Nat},Conn (endsL g.es) x y->S x=true->S y=true:=fun {x y} hxy=>by
  induction hxy with
  | refl=>exact id
  | step hp hs ih=>
   rename_i y z;intro hx1;have hy:=ih hx1;refine XZ fun hz=>hx ?_;rw [Qq5] at hz;obtain ⟨e,he,hye⟩: ∃e,e∈g.es∧((e.a=y∧e.b=z)∨(e.b=y∧e.a=z)):=by
    rcases hs with hs | hs
    ·obtain ⟨e,he,q⟩:=A3L hs;have q1:=congrArg Prod.fst q;have q2:=congrArg Prod.snd q;exact ⟨e,he,.inl ⟨by simpa using q1.symm,by simpa using q2.symm⟩⟩
    ·obtain ⟨e,he,q⟩:=A3L hs;have q1:=congrArg Prod.fst q;have q2:=congrArg Prod.snd q;exact ⟨e,he,.inr ⟨by simpa using q2.symm,by simpa using q1.symm⟩⟩
   have hr:=h.2.1 e he;unfold okE at hr;have hne:e.a≠e.b:=by
    intro q;have:y=z:=by rcases hye with q2 | q2<;>omega
    rw [this,hz] at hy; cases hy
   refine ⟨y,z,by rcases hye with q | q<;>omega,by rcases hye with q | q<;>omega,hy,hz,?_⟩;have:=B8Y hE he hne hye;omega
 rw [key hab hSa] at hSb; cases hSb
end Go.Proofs.YtdbdfkohpjefjaaGreat
