/- A part of the proof. -/
import Derived.Test.YtdbdfkohpjefjaaGreatPart21
import Derived.Test.YtdbdfkohpjefjaaGreatPart22
set_option linter.all false
set_option maxHeartbeats 4000000
set_option maxRecDepth 100000
namespace Go.Proofs.YtdbdfkohpjefjaaGreat
open Go.Sp
open Classical in
theorem A88 {N n:Nat} (g:Nat->Nat) (hr: ∀x,x<N->g x<n) (hs: ∀v,v<n-> ∃x,x<N∧g x=v):ncls N (fun x y=>g x=g y)=n:=by
 unfold ncls;generalize hl:List.filter _ (List.range N)=l;have hmem: ∀h,h∈l↔h<N∧ ∀y,y<N->g h=g y->h≤y:=fun h=>by rw [<-hl]; simp
 have hnd:l.Nodup:=by rw [<-hl]; exact List.nodup_range.filter _
 have hinj: ∀a b,a∈l->b∈l->g a=g b->a=b:=fun a b ha hb e=>by
  have h1:=(hmem a).1 ha;have h2:=(hmem b).1 hb;have:=h1.2 b h2.1 e;have:=h2.2 a h1.1 e.symm;omega
 have hnd2:(l.map g).Nodup:=by
  rw [List.Nodup,Jj];exact List.Pairwise.imp_of_mem (fun {a b} ha hb hne e=>hne (hinj a b ha hb e)) hnd
 have h1:=WJ hnd2 (l₂:=List.range n) (fun v hv=>by
  obtain ⟨x,hx,rfl⟩:=Xq.1 hv
  exact XQ.2 (hr x ((hmem x).1 hx).1))
 have h2:=WJ (Qx4 (n:=n)) (l₂:=l.map g) (fun v hv=>by
  obtain ⟨x,hx,e⟩:=hs v (XQ.1 hv);obtain ⟨m,m1,⟨m2,m3⟩,m4⟩:=A7z (P:=fun y=>y<N∧g y=v) ⟨hx,e⟩
  exact Xq.2 ⟨m,(hmem m).2 ⟨m2,fun y hy he=>m4 y ⟨hy,by rw [<-he,m3]⟩⟩,m3⟩)
 simp at h1 h2;omega
theorem A4C {l:List (Int×Int)} {a b:Nat} {x y:Nat}:Conn (l++[((a:Int),(b:Int))]) x y↔Conn l x y∨(Conn l a x∨Conn l b x)∧(Conn l a y∨Conn l b y):=by
 constructor
 ·intro h
  induction h with
  | refl=>exact .inl .refl
  | @step u w _ hs ih=>
   have hor:(((u:Int),(w:Int))∈l∨((w:Int),(u:Int))∈l)∨(u=a∧w=b)∨(u=b∧w=a):=by
    rcases hs with h | h<;>rcases XZ.1 h with h | h
    ·exact .inl (.inl h)
    ·simp at h; exact .inr (.inl ⟨by omega,by omega⟩)
    ·exact .inl (.inr h)
    ·simp at h; exact .inr (.inr ⟨by omega,by omega⟩)
   rcases hor with h | ⟨rfl,rfl⟩ | ⟨rfl,rfl⟩
   ·rcases ih with ih | ⟨i1,i2⟩
    ·exact .inl (ih.step h)
    ·exact .inr ⟨i1,i2.imp (fun q=>q.step h) (fun q=>q.step h)⟩
   ·rcases ih with ih | ⟨i1,i2⟩
    ·exact .inr ⟨.inl ih.symm,.inr .refl⟩
    ·exact .inr ⟨i1,.inr .refl⟩
   ·rcases ih with ih | ⟨i1,i2⟩
    ·exact .inr ⟨.inr ih.symm,.inl .refl⟩
    ·exact .inr ⟨i1,.inl .refl⟩
 ·have hm: ∀{u w},Conn l u w->Conn (l++[((a:Int),(b:Int))]) u w:=fun h=>h.mono fun p hp=>Qj4 _ hp;have hab:Conn (l++[((a:Int),(b:Int))]) a b:= .one (.inl (by simp));rintro (h | ⟨h1,h2⟩)
  ·exact hm h
  ·rcases h1 with h1 | h1<;>rcases h2 with h2 | h2
   ·exact (hm h1).symm.trans (hm h2)
   ·exact (hm h1).symm.trans (hab.trans (hm h2))
   ·exact (hm h1).symm.trans (hab.symm.trans (hm h2))
   ·exact (hm h1).symm.trans (hm h2)
theorem A6j (N:Nat) (l:List (Int×Int)):Eqv N (Conn l):=⟨fun _ _=> .refl,fun _ _ _ _ h=>h.symm,fun _ _ _ _ _ _ h1 h2=>h1.trans h2⟩
open Classical in
theorem B5K {g:G} {n:Nat} (hc:checkG g=0) (hn:g.n=n):A1J g.es n n=ncls n (Conn (endsL g.es)):=by
 have h12:=(A0j.1 hc).1;have h1:=A55 hc hn n (QQ _);rw [B08] at h1;have h2:A1J g.es n n=((List.range n).filter fun v=>decide ((genS (endsL g.es)).1[v]? =some v)).length:=by omega
 rw [h2];unfold ncls;congr 1;refine Qw4 fun v hv=> ?_;have hv':=XQ.1 hv;have hin:B7C (endsL g.es):=fun p hp=>by have:=A2z hc hn p hp; omega
 rw [decide_eq_decide,A3A hin (by omega)];constructor
 ·intro H y hy hcn;exact Nat.le_of_not_lt fun hlt=>H ⟨y,hlt,hcn.symm⟩
 ·rintro H ⟨u,hu,hcn⟩;have:=H u (by omega) hcn.symm;omega
structure Emb (E n:Nat) (L:List (Int×Int)) (s:Nat->Nat) (g:Nat->Nat):Prop where
 len:L.length=E
 perm:PermN (2*E) s
 lt: ∀x,x<2*E->g x<n
 ends: ∀k,k<E->L[k]? =some (((g (2*k):Nat):Int),((g (2*k+1):Nat):Int))
 keep: ∀x,x<2*E->g (s x)=g x
section
variable {E n:Nat} {L:List (Int×Int)} {s g:Nat->Nat}
end
end Go.Proofs.YtdbdfkohpjefjaaGreat
namespace Go.Proofs.YtdbdfkohpjefjaaGreat
open Go.Sp
theorem B4s {l:List Int} (hn:l.Nodup) {s:Nat->Nat} (hs: ∀x:Nat,(x:Int)∈l->((s x:Nat):Int)=A8r l (x:Int)) {x:Nat} (hx:(x:Int)∈l): ∀k,l[(l.idxOf (x:Int)+k)%l.length]? =some ((it s k x:Nat):Int)
 | 0=>by
  obtain ⟨h1,h2⟩:=A3o hx;rw [Nat.add_zero,Vz h1,h2]; rfl
 | k+1=>by
  have ih:=B4s hn hs hx k;obtain ⟨h1,h2⟩:=A3o hx;have hm:=Qy ih;have hnx:=hs _ hm;unfold A8r at hnx;rw [C1A hn ih] at hnx;have hlt:((l.idxOf (x:Int)+k)%l.length+1)%l.length<l.length:=Qq0 _ (by omega);have e:((l.idxOf (x:Int)+k)%l.length+1)%l.length=(l.idxOf (x:Int)+(k+1))%l.length:=by rw [Nat.mod_add_mod]; rfl
  rw [e] at hnx hlt;rw [Qz,Qq hlt,Option.getD_some] at hnx;rw [Qq hlt];show _=some (((s (it s k x)):Nat):Int);rw [hnx]
theorem C27 {l:List Int} (hn:l.Nodup) {s:Nat->Nat} (hs: ∀x:Nat,(x:Int)∈l->((s x:Nat):Int)=A8r l (x:Int)) {x y:Nat} (hx:(x:Int)∈l) (hy:(y:Int)∈l):A3y s x y:=by
 obtain ⟨h1,h2⟩:=A3o hx;obtain ⟨h3,h4⟩:=A3o hy;refine ⟨l.idxOf (y:Int)+(l.length-l.idxOf (x:Int)),?_⟩;have h5:=B4s hn hs hx (l.idxOf (y:Int)+(l.length-l.idxOf (x:Int)));rw [show l.idxOf (x:Int)+(l.idxOf (y:Int)+(l.length-l.idxOf (x:Int)))=l.idxOf (y:Int)+l.length by omega,Nat.add_mod_right,Vz h3,h4] at h5;have:=VY h5;omega
theorem A3V (n:Nat):ncls n (Conn [])=n:=by
 have:=A88 (N:=n) (n:=n) (fun x=>x) (fun x hx=>hx) (fun v hv=>⟨v,hv,rfl⟩);rw [<-A2B (R:=Conn []) (S:=fun x y=>x=y) fun x y _ _=> ?_] at this
 ·exact this
 ·constructor
  ·intro hc;cases hc with
   | refl=>rfl
   | step _ hs=>simp at hs
  ·rintro rfl; exact .refl
open Classical in
theorem A77 {N:Nat} {R:Nat->Nat->Prop} (hR:Eqv N R) (h:ncls N R=1) {x y:Nat} (hx:x<N) (hy:y<N):R x y:=by
 unfold ncls at h;generalize hl:List.filter _ (List.range N)=l at h;have hmem: ∀h,h∈l↔h<N∧ ∀y,y<N->R h y->h≤y:=fun h=>by rw [<-hl]; simp
 have lead: ∀x,x<N-> ∃m,m<N∧R x m∧m∈l:=fun x hx=>by
  obtain ⟨m,m1,⟨m2,m3⟩,m4⟩:=A7z (P:=fun y=>y<N∧R x y) ⟨hx,hR.refl x hx⟩;exact ⟨m,m2,m3,(hmem m).2 ⟨m2,fun y hy hr=>m4 y ⟨hy,hR.trans x m y hx m2 hy m3 hr⟩⟩⟩
 obtain ⟨a,a1,a2,a3⟩:=lead x hx;obtain ⟨b,b1,b2,b3⟩:=lead y hy;obtain ⟨c,rfl⟩: ∃c,l=[c]:=List.length_eq_one_iff.1 h;have e:a=b:=by simp at a3 b3; rw [a3,b3]
 subst e;exact hR.trans x a y hx a1 hy a2 (hR.symm y a hy a1 b2)
def sR (L:List (Int×Int)) (ar:List (List Int)) (x:Nat):Nat:=(nextR L ar x).toNat
def gR (L:List (Int×Int)) (x:Nat):Nat:=(atL L x).toNat
theorem A89 {r:R} (hr:ROk r):Emb (endsL r.es).length r.n.toNat (endsL r.es) (sR (endsL r.es) r.ar) (gR (endsL r.es)):=by
 refine ⟨rfl,⟨fun x hx=> ?_,fun x y hx hy e=> ?_⟩,fun x hx=> ?_,fun k hk=> ?_,fun x hx=> ?_⟩
 ·have:=hr.next hx; unfold sR; omega
 ·have h1:=hr.next hx;have h2:=hr.next hy;unfold sR at e;exact hr.next_inj hx hy (by omega)
 ·have:=A1D hr.c hx; unfold gR; omega
 ·have h1:=A1D hr.c (show 2*k<2*(endsL r.es).length by omega);have h2:=A1D hr.c (show 2*k+1<2*(endsL r.es).length by omega);have e:=Qq hk;have a1:atL (endsL r.es) (2*k)=(endsL r.es)[k].1:=by
   unfold atL; rw [if_pos (by omega),show 2*k / 2=k by omega,Qz,e]; rfl
  have a2:atL (endsL r.es) (2*k+1)=(endsL r.es)[k].2:=by
   unfold atL; rw [if_neg (by omega),show (2*k+1) / 2=k by omega,Qz,e]; rfl
  rw [e];congr 1;refine Prod.ext ?_ ?_
  ·show _=(((atL (endsL r.es) (2*k)).toNat:Nat):Int); rw [<-a1]; omega
  ·show _=(((atL (endsL r.es) (2*k+1)).toNat:Nat):Int); rw [<-a2]; omega
 ·show (atL (endsL r.es) (sR (endsL r.es) r.ar x)).toNat=(atL (endsL r.es) x).toNat;unfold sR;rw [(hr.next hx).2.2]
end Go.Proofs.YtdbdfkohpjefjaaGreat
namespace Go.Proofs.YtdbdfkohpjefjaaGreat
open Go.Sp
structure TF (F:List Nat) (rt dp:Nat->Nat):Prop where
 len:F.length=12
 lt: ∀i (h:i<F.length),F[i]<12
 same: ∀i (h:i<F.length),rt F[i]=rt i
 self: ∀i (h:i<F.length),F[i]=i->rt i=i
 down: ∀i (h:i<F.length),F[i]≠i->dp F[i]<dp i
 rlt: ∀i,i<12->rt i<12
 fix: ∀i,i<12->F[rt i]? =some (rt i)
theorem TF.zero:TF (List.range 12) (fun v=>v) (fun _=>0):=
 ⟨by simp,fun i h=>by simpa using h,fun i h=>by simp,fun i h _=>rfl,fun i h e=>absurd (by simp) e,fun i h=>h,fun i h=>by simp [h]⟩
section
variable {F:List Nat} {rt dp:Nat->Nat}
theorem TF.idem (h:TF F rt dp) {i:Nat} (hi:i<12):rt (rt i)=rt i:=by
 have hf:=h.fix i hi;obtain ⟨q1,q2⟩:=Qx.1 hf;exact h.self _ q1 q2
theorem TF.join (h:TF F rt dp) {a b:Nat} (ha:a<12) (hb:b<12) (hne:rt a≠rt b):
  TF (F.set (rt a) (rt b)) (fun v=>if rt v=rt a then rt b else rt v) (fun v=>if rt v=rt a then dp v+dp (rt b)+1 else dp v):=by
 have ra:=h.rlt a ha;have rb:=h.rlt b hb;have ia:=h.idem ha;have ib:=h.idem hb;have fa:=h.fix a ha;have fb:=h.fix b hb;have hl:=h.len;refine ⟨by rw [Yx]; exact hl,fun i hi=> ?_,fun i hi=> ?_,fun i hi e=> ?_,fun i hi e=> ?_,fun i hi=> ?_,fun i hi=> ?_⟩
 ·rw [Qx5]; split
  ·exact rb
  ·exact h.lt i (by simpa using hi)
 ·have hi':i<F.length:=by simpa using hi
  rw [Qx5];by_cases e:rt a=i
  ·rw [if_pos e];subst e;simp only [ia,ib,if_true];rw [if_neg (fun e=>hne e.symm)]
  ·rw [if_neg e];simp only [h.same i hi']
 ·have hi':i<F.length:=by simpa using hi
  rw [Qx5] at e;by_cases e2:rt a=i
  ·rw [if_pos e2] at e; exact absurd (e2.trans e.symm) hne
  ·rw [if_neg e2] at e;have:=h.self i hi' e;simp only [this];rw [if_neg (fun e=>e2 e.symm)]
 ·have hi':i<F.length:=by simpa using hi
  rw [Qx5] at e ⊢;by_cases e2:rt a=i
  ·subst e2;simp only [if_true,ia,ib];rw [if_neg (fun e=>hne e.symm)];omega
  ·rw [if_neg e2] at e ⊢;have hs:=h.same i hi';have hd:=h.down i hi' e;simp only [hs];split<;>omega
 ·split
  ·exact rb
  ·exact h.rlt i hi
 ·by_cases e:rt i=rt a
  ·rw [if_pos e,QX hne]; exact fb
  ·rw [if_neg e,QX (fun x=>e x.symm)]; exact h.fix i hi
theorem TF.stay (h:TF F rt dp) {a b:Nat} (ha:a<12) (e:rt a=rt b):F.set (rt a) (rt b)=F:=by
 have fa:=h.fix a ha;obtain ⟨q1,q2⟩:=Qx.1 fa;apply XY;intro i;by_cases hi:rt a=i
 ·subst hi; rw [QW q1,fa,e]
 ·rw [QX hi]
end
structure TC (L:List (Int×Int)) (F:List Nat) (rt dp:Nat->Nat):Prop where
 tf:TF F rt dp
 conn: ∀u w,u<12->w<12->(rt u=rt w↔Conn L u w)
def TCe (L:List (Int×Int)) (F:List Nat):Prop:= ∃rt dp,TC L F rt dp
theorem B1W {u w:Nat}:Conn [] u w↔u=w:=by
 constructor
 ·intro h;cases h with
  | refl=>rfl
  | step _ hs=>simp at hs
 ·rintro rfl; exact .refl
theorem TCe.zero:TCe [] (List.range 12):=⟨_,_,TF.zero,fun u w _ _=>B1W.symm⟩
theorem TC.snoc {L:List (Int×Int)} {F:List Nat} {rt dp:Nat->Nat} (h:TC L F rt dp) {a b:Nat} (ha:a<12) (hb:b<12):TCe (L++[((a:Int),(b:Int))]) (F.set (rt a) (rt b)):=by
 obtain ⟨tf,cn⟩:=h;by_cases e:rt a=rt b
 ·rw [tf.stay ha e];refine ⟨rt,dp,tf,fun u w hu hw=> ?_⟩;have hc:=(cn a b ha hb).1 e;rw [A4C,cn u w hu hw];constructor
  ·exact .inl
  ·rintro (q | ⟨q1,q2⟩)
   ·exact q
   ·rcases q1 with q1 | q1<;>rcases q2 with q2 | q2
    ·exact q1.symm.trans q2
    ·exact q1.symm.trans (hc.trans q2)
    ·exact q1.symm.trans (hc.symm.trans q2)
    ·exact q1.symm.trans q2
 ·refine ⟨_,_,tf.join ha hb e,fun u w hu hw=> ?_⟩;rw [A4C];have c1:=cn u w hu hw;have c2:=cn a u ha hu;have c3:=cn b u hb hu;have c4:=cn a w ha hw;have c5:=cn b w hb hw;rw [<-c1,<-c2,<-c3,<-c4,<-c5];generalize rt u=p at*;generalize rt w=q at*;generalize rt a=c at*;generalize rt b=d at*;by_cases x:p=c<;>by_cases y:q=c
  ·rw [if_pos x,if_pos y]; omega
  ·rw [if_pos x,if_neg y]; omega
  ·rw [if_neg x,if_pos y]; omega
  ·rw [if_neg x,if_neg y]; omega
def A5i (M:List (Int×Int)):Prop:= ∀k p,M[k]? =some p-> ¬Conn (M.take k) p.1.toNat p.2.toNat
theorem A3C {M:List (Int×Int)} {p:Int×Int}:A5i (M++[p])↔A5i M∧ ¬Conn M p.1.toNat p.2.toNat:=by
 constructor
 ·intro h;refine ⟨fun k q hq=> ?_,?_⟩
  ·have hk:=(Qx.1 hq).1;have:=h k q (by rw [Qk hk]; exact hq);rwa [ZQ (by omega)] at this
  ·have:=h M.length p (by rw [QJ (by omega)]; simp);rwa [ZQ (by omega),Zw] at this
 ·rintro ⟨h1,h2⟩ k q hq;rw [List.getElem?_append] at hq;split at hq
  ·rename_i hk;rw [ZQ (by omega)];exact h1 k q hq
  ·have hk:k=M.length:=by
    have:=(Qx.1 hq).1;simp at this; omega
   subst hk;simp at hq; subst hq;rw [ZQ (by omega),Zw];exact h2
theorem A3W:A5i []:=fun k p h=>by simp at h
theorem A3r {n:Nat} {M:List (Int×Int)} {a b:Nat} (h:Conn M a b):ncls n (Conn (M++[((a:Int),(b:Int))]))=ncls n (Conn M):=A2B fun x y _ _=>by
 rw [A4C];constructor
 ·rintro (q | ⟨q1,q2⟩)
  ·exact q
  ·rcases q1 with q1 | q1<;>rcases q2 with q2 | q2
   ·exact q1.symm.trans q2
   ·exact q1.symm.trans (h.trans q2)
   ·exact q1.symm.trans (h.symm.trans q2)
   ·exact q1.symm.trans q2
 ·exact .inl
theorem A27 {n:Nat} {M:List (Int×Int)} {a b:Nat} (ha:a<n) (hb:b<n) (h: ¬Conn M a b):ncls n (Conn (M++[((a:Int),(b:Int))]))+1=ncls n (Conn M):=
 B7c (A6j n M) ha hb h fun x y _ _=>A4C
open Classical in
theorem C0D {n:Nat} {R:Nat->Nat->Prop} (h:0<n):1≤ncls n R:=by
 unfold ncls;exact List.length_pos_of_mem (YW.2 ⟨XQ.2 h,decide_eq_true fun y _ _=>Xj _⟩)
def InN (n:Nat) (M:List (Int×Int)):Prop:= ∀p,p∈M->(0≤p.1∧p.1<n)∧(0≤p.2∧p.2<n)
theorem A6k {n:Nat} (M:List (Int×Int)) (h:InN n M):n≤ncls n (Conn M)+M.length∧(A5i M↔ncls n (Conn M)+M.length=n):=by
 revert h;refine A5a (P:=fun M=>InN n M->n≤ncls n (Conn M)+M.length∧(A5i M↔ncls n (Conn M)+M.length=n)) ?_ ?_ M
 ·intro _;rw [A3V];exact ⟨QQ _,fun _=>rfl,fun _=>A3W⟩
 ·intro M p ih h;obtain ⟨i1,i2⟩:=ih fun q hq=>h q (by simp [hq]);have hp:=h p (by simp);obtain ⟨p1,p2⟩:=p;obtain ⟨a,rfl⟩:=XV hp.1.1;obtain ⟨b,rfl⟩:=XV hp.2.1;have ha:a<n:=by have:=hp.1.2; simp only at this; omega
  have hb:b<n:=by have:=hp.2.2; simp only at this; omega
  rw [A3C,Xw,List.length_singleton,i2];show _∧(_∧ ¬Conn M a b↔_);by_cases hc:Conn M a b
  ·have e:ncls n (Conn (M++[(((a:Nat):Int),((b:Nat):Int))]))=_:=A3r hc;rw [e];exact ⟨by omega,fun ⟨_,q⟩=>absurd hc q,fun q=>by omega⟩
  ·have e:ncls n (Conn (M++[(((a:Nat):Int),((b:Nat):Int))]))+1=_:=A27 ha hb hc;exact ⟨by omega,fun ⟨q,_⟩=>by omega,fun q=>⟨by omega,hc⟩⟩
def pkL (L:List (Int×Int)) (t:List Int):List (Int×Int):=t.map fun x=>L.getD x.toNat (0,0)
theorem A2X (L:List (Int×Int)) (t:List Int):(pkL L t).length=t.length:=by simp [pkL]
theorem B1X {n:Nat} {L:List (Int×Int)} {t:List Int} (hL:InN n L) (ht: ∀x,x∈t->0≤x∧x<L.length):InN n (pkL L t):=fun p hp=>by
 obtain ⟨x,hx,rfl⟩:=Xq.1 hp;have:=ht x hx;rw [Qz,Qq (by omega)];exact hL _ (Xv _)
open Classical in
noncomputable def treeB (n:Nat) (L:List (Int×Int)) (t:List Int):Bool:=decide ((t.length:Int)=n-1∧ncls n (Conn (pkL L t))=1)
theorem B5L {n:Nat} (h0:0<n) {L:List (Int×Int)} {t:List Int} (hL:InN n L) (ht: ∀x,x∈t->0≤x∧x<L.length):treeB n L t=true↔A5i (pkL L t)∧(t.length:Int)=n-1:=by
 unfold treeB;rw [decide_eq_true_eq,(A6k _ (B1X hL ht)).2,A2X];omega
theorem A6N {n:Int}: ∀{p:Option Int} {l:List Int},A4h n p l=0-> ∀x,x∈l->0≤x∧x<n
 | _,[],_,x,hx=>by cases hx
 | p,v::l,h,x,hx=>by
  rw [A4h] at h;by_cases hv:0≤v∧v<n
  ·rw [if_neg (by omega)] at h;split at h
   ·omega
   ·rcases Qw.1 hx with rfl | hx
    ·exact hv
    ·exact A6N h x hx
  ·rw [if_pos hv] at h; omega
noncomputable def A7r (g:G) (t:List Int):Int:=
 if A0s g≠0 then A0s g else if A4h (endsL g.es).length none t≠0 then A4h (endsL g.es).length none t
 else if (t.length:Int)≠g.n-1 then 8 else if treeB g.n.toNat (endsL g.es) t=true then 0 else 3
end Go.Proofs.YtdbdfkohpjefjaaGreat
namespace Go.Proofs.YtdbdfkohpjefjaaGreat
open Go.Sp
theorem A8A:ACall Tryz.prog 123 [] (tF (List.range 12)):=by
 refine ACall.of_body Tryz.func123 rfl (by kernel_rfl) ?_;simp only [entry,Tryz.ntmps123];refine zU ?_;refine zR Qw8 Qw8 Qw8 ?_;refine AWp.loopS (α:=Nat) 11 (fun i=>[(0,.c (.ptr 0 0)),(1,.c (.ptr 1 0)),(3,.c (.int .i64 (i:Int)))]) (fun i=>[.box (fC (List.replicate 12 0)),.box (fC (A6G i))]) (fun i=>i≤12) (fun i=>12-i) (0) (hk:=Weak.headL 2 11 [0,1,3] (zV @A0Y)) (h0:=?_) (round:=fun i hI=>?_)
 ·exact Xj _
 ·by_cases hlt:i<12
  ·have hset:=A8u hlt;have hlen:=A8v hI;generalize A6G i=F at*;refine zR (zc @A0U (zc @hlen (zc @A7f (zc @A48 (zc @hset Qw8))))) Qw8 Qw8 ?_;refine ⟨i+1,Weak.headN 2 11 [0,1,3] (zV @A0Y),?_,?_⟩
   ·exact hlt
   ·omega
  ·have ei:i=12:=by omega
   subst ei;rw [B02];have hl:(List.range 12).length=12:=Vj;generalize List.range 12=F at*;have ht:(fC F).take 12=fC F:=Zz (by rw [A0U,hl]; exact QQ _);have hs:=A3p (List.replicate 12 0) F (by simp [hl]);have hlr:(List.replicate 12 0:List Nat).length=12:=by simp
   generalize List.replicate 12 0=Z at*;refine zR (zc @A0U (zc @hl (zc @hlr (zc @ht (zc @hs (zc @A3T Qw8)))))) Qw8 Qw8 ?_;have hm:=A6h [Blk.box (fC F),Blk.box (fC F)] F;simp [A0z,A0y,Blk.cells,ty,Tryz.results123,A0t,A0u,toT,A0d,A0b,A0c,A0a,hm,hl,ht,A0U,tF]
theorem C0E {F:List Nat} {rt dp:Nat->Nat} (h:TF F rt dp) (v:Nat) (hv:v<12):ACall Tryz.prog 166 [.t (.rptr (fT F)),A0m v] (A0m (rt v)):=by
 have hF:=h.len;refine ACall.of_body Tryz.func166 rfl (by kernel_rfl) ?_;simp only [entry,Tryz.ntmps166,A0m];refine zU ?_;refine zR Qw8 Qw8 Qw8 ?_;refine AWp.loopS (α:=Nat) 18 (fun u=>[(0,.c (.rptr (fT F))),(1,.c (.int .i64 (u:Int)))]) (fun u=>[]) (fun u=>u<12∧rt v=rt u) (fun u=>dp u) (v) (hk:=Weak.headL 0 18 [0,1] (zV @A0Y)) (h0:=?_) (round:=fun u hI=>?_)
 ·exact ⟨hv,rfl⟩
 ·obtain ⟨hu,hx⟩:=hI;have hul:u<F.length:=by omega
  have e1:=B2U hul;have e2:=h.same u hul;have e3:=h.lt u hul;have e4:=h.self u hul;have e5:=h.down u hul
  repeat' (first|((first|(refine zT ?_;intro K' hK')|(refine zG ?_ ?_<;>(try refine zH ?_)<;>intro hguard<;>(try exact zX)<;>try intro K' hK'))<;>((try simp+contextual only [go_sem,e1,Int.toNat_natCast,Yz]);(repeat' first|(with_reducible refine hK' _ _ ?_;clear hK' K')|exact zY|with_reducible refine Qw7 ?_ ?_|(with_reducible intro hpath;try exact zP)|(refine hK' _ _ ?_;clear hK' K')|fail);try refine zS ?_))|(refine zE ?_;refine hK _ _ ?_;clear hK K)|(refine zN ?_;try refine zS ?_)|refine zA ?_|(refine zB ?_;intro K hK)|(refine zC ?_ ?_<;>(try refine zH ?_)<;>intro hcond<;>try exact zX)|fail)
  ·have hne:F[u]≠u:=by omega
   refine ⟨F[u],Weak.headN 0 18 [0,1] (zV @A0Y),?_,?_⟩
   ·exact ⟨e3,by rw [hx,e2]⟩
   ·exact e5 hne
  ·have e:rt v=u:=by rw [hx]; exact e4 (by omega)
   simp [A0z,A0y,Blk.cells,ty,Tryz.results166,A0t,A0u,toT,A0d,A0b,A0c,A0a,A0m,e]
theorem A6O {F:List Nat} {rt dp:Nat->Nat} (h:TF F rt dp) (v:Nat) (hv:v<12) {H:List Blk} {id:Nat} (hb:H[id]? =some (.box (fC F))):
  ACallH Tryz.prog 166 H [.c (.ptr id 0),.c (.int .i64 (v:Int))] H (.c (.int .i64 (rt v:Nat))):=
 ACall.hb (C0E h v hv) (by simp [toT,A0d,A0b,hb,Blk.cells,B01,A0a,A0m]) rfl
theorem A78 {F:List Nat} {rt dp:Nat->Nat} (h:TF F rt dp) (a b:Nat) (ha:a<12) (hb:b<12) {H:List Blk} {id:Nat} (hid:H[id]? =some (.box (fC F))):
  ACallH Tryz.prog 124 H [.c (.ptr id 0),.agg [.int .i64 (a:Int),.int .i64 (b:Int)]] (H.set id (.box (fC (F.set (rt a) (rt b))))++[.box [.int .i64 (a:Int),.int .i64 (b:Int)]]) (.c (.bool (!decide (rt a=rt b)))):=by
 have hil:id<H.length:=(Qx.1 hid).1;have hid2: ∀B:Blk,(H++[B])[id]? =some (.box (fC F)):=fun B=>by rw [Qk hil]; exact hid
 have hst: ∀B X:Blk,(H++[B]).set id X=H.set id X++[B]:=fun B X=>Qq7 _ _ hil;have hnew: ∀B:Blk,(H++[B])[H.length]? =some B:=fun B=>by simp
 have rx:=A6O h a ha (hid2 (.box [.int .i64 (a:Int),.int .i64 (b:Int)]));have ry:=A6O h b hb (hid2 (.box [.int .i64 (a:Int),.int .i64 (b:Int)]));have la:=h.rlt a ha;have lb:=h.rlt b hb;have hlen:=h.len;generalize rt a=x at*;generalize rt b=y at*;refine ACallH.of_body Tryz.func124 rfl (by kernel_rfl) ?_;simp only [entry,Tryz.ntmps124,List.length_cons,List.length_nil,Nat.reduceAdd,Nat.reduceSub,List.replicate_succ,List.replicate_zero,List.cons_append,List.nil_append];by_cases e:x=y
 ·subst e;rw [decide_eq_true rfl];refine zJ Qw8 (zc @A0U (zc @A7f (zc @A48 (zc @hlen (zc @hid2 (zc @hst (zc @hnew Qw8))))))) Qw8 (zc rx (zc ry Qw8)) Qw8 ?_;simp [A4y,A1S,A0t,A1R,Tryz.results124]
 ·rw [decide_eq_false e];have eI: ¬((x:Int)=(y:Int)):=by omega
  refine zJ Qw8 (zc @A0U (zc @A7f (zc @A48 (zc @hlen (zc @hid2 (zc @hst (zc @hnew (zc @eI Qw8)))))))) Qw8 (zc rx (zc ry Qw8)) Qw8 ?_;simp [A4y,A1S,A0t,A1R,Tryz.results124]
theorem A3D {g:G} {n:Nat} (hc:checkG g=0) (hn:g.n=n):connB g=decide (ncls n (Conn (endsL g.es))=1):=by
 unfold connB;rw [show g.n.toNat=n by omega,B5K hc hn]
theorem B4t (g:G) (hl:g.es.length≤40):ACall Tryz.prog 76 [tG g] (.tup [A0B (if A0s g≠0 then [] else endsL g.es),A0m (A0s g)]):=by
 have hE:=B2N g (by omega);have hg:=A8A;by_cases hc:checkG g=0
 case neg=>
  have ej:A0s g=checkG g:=by unfold A0s; rw [if_pos hc]
  rw [ej,if_pos hc];rw [if_pos hc] at hE;generalize checkG g=E at*;obtain ⟨n,es⟩:=g;refine ACall.of_body Tryz.func76 rfl (by kernel_rfl) ?_;simp only [entry,Tryz.ntmps76,tG];refine zU ?_;refine zR (zc @hc Qw8) (zc hE Qw8) Qw8 ?_;simp [A0z,A0y,Blk.cells,ty,Tryz.results76,A0t,A0u,toT,A0d,A0b,A0c,A0a,A0m,A0B,A1b]
 have h12:=(A0j.1 hc).1;obtain ⟨k,hk⟩:=XV (show 0≤g.n by omega);have hk':g.n=(k:Nat):=hk;have hcp:=A3D hc hk';have hin:InN k (endsL g.es):=fun p hp=>A2z hc hk' p hp;have hk0:0<k:=by omega
 have hk12:k≤12:=by omega
 have hll:(endsL g.es).length≤2000:=by
  have:=A5V (es:=g.es) fun e he=>by have:=(A0j.1 hc).2.1 e he; unfold okE at this; omega
  omega
 have ej:A0s g=if ncls k (Conn (endsL g.es))=1 then 0 else 13:=by
  unfold A0s;rw [if_neg (by omega),hcp];by_cases h:ncls k (Conn (endsL g.es))=1
  ·rw [if_pos h,if_pos (by simp [h])]
  ·rw [if_neg h,if_neg (by simp [h])]
 rw [ej];rw [if_neg (by omega)] at hE;clear ej hcp hc h12 hk';obtain ⟨n,es⟩:=g;simp only at hE hk hin hll ⊢;subst hk;generalize endsL es=L at*;have hr12:(List.range 12).length=12:=Vj;have hz0:=TCe.zero;have hnk:=A3V k;have hps:=C0D (R:=Conn L) hk0;generalize hR:List.range 12=R at*;have hof:(fT R).map A03=fC R:=B58 R;have hst:=A3p A2v R (by rw [hr12]; rfl);have hz:fC A2v=[.int .i64 0,.int .i64 0,.int .i64 0,.int .i64 0,.int .i64 0,.int .i64 0,.int .i64 0,.int .i64 0,.int .i64 0,.int .i64 0,.int .i64 0,.int .i64 0]:=rfl;rw [hz] at hst;unfold tF at hg;change ACall _ _ [tG ⟨((k:Nat):Int),es⟩] _ at hE;show ACall _ _ [tG ⟨((k:Nat):Int),es⟩] _;refine ACall.of_body Tryz.func76 rfl (by kernel_rfl) ?_;simp only [entry,Tryz.ntmps76,tG];refine zU ?_;refine zR (zc @A05 (zc @A0U (zc @A3T (zc @hof (zc @hst (zc @hr12 Qw8)))))) (zc hE (zc hg Qw8)) Qw8 ?_;refine AWp.loopS (α:=(Nat×Int×List Nat)) 35 (fun s=>[(4,.c (.slice (A1b L) .none)),(6,.c (.ptr 1 0)),(7,.c (.int .i64 s.2.1)),(21,.c (.slice (A1b L) .none)),(22,.c (.int .i64 (L.length:Int))),(23,.c (.int .i64 (s.1:Int)))]) (fun s=>[.box [.int .i64 (k:Int),.slice (A0f es) .none],.box (fC s.2.2)]) (fun s=>s.1≤L.length∧s.2.1=(ncls k (Conn (L.take s.1)):Nat)∧TCe (L.take s.1) s.2.2) (fun s=>L.length-s.1) ((0,(k:Int),R)) (hk:=Weak.headL 2 35 [4,6,7,21,22,23] (zV @A0Y)) (h0:=?_) (round:=fun s hI=>?_)
 ·exact ⟨Xj _,by simp only [List.take_zero]; rw [hnk],hz0⟩
 ·obtain ⟨i,c,F⟩:=s;obtain ⟨hi,hcc,hT⟩:=hI;simp only at hi hcc hT ⊢;by_cases hlt:i<L.length
  ·have hltI:(i:Int)<L.length:=by omega
   have e0:=Qq hlt;have e1:=A2P e0;have hsn:=take_snoc e0;have hrng:=hin _ (Xv hlt);generalize L[i]=p at*;obtain ⟨pa,pb⟩:=p;obtain ⟨a,rfl⟩:=XV hrng.1.1;obtain ⟨b,rfl⟩:=XV hrng.2.1;have ha:a<k:=by have:=hrng.1.2; simp only at this; omega
   have hb:b<k:=by have:=hrng.2.2; simp only at this; omega
   change L.take (i+1)=L.take i++[((a:Int),(b:Int))] at hsn;change (A1b L)[i]? =some [.int .i64 (a:Int),.int .i64 (b:Int)] at e1;obtain ⟨rt,dp,tc⟩:=hT;have tn:=tc.snoc (a:=a) (b:=b) (by omega) (by omega);rw [<-hsn] at tn;have hJ:=A78 tc.tf a b (by omega) (by omega) (H:=[.box [.int .i64 (k:Int),.slice (A0f es) .none],.box (fC F),.box [.int .i64 (a:Int),.int .i64 (b:Int)]]) (id:=1) rfl;have hcn:=tc.conn a b (by omega) (by omega);have hcb:(ncls k (Conn (L.take i)):Int)≤12:=by
    have:ncls k (Conn (L.take i))≤k:=by
     unfold ncls;refine Yj (Jq _ _) ?_;rw [Vj]; exact QQ _
    omega
   by_cases e:rt a=rt b
   ·have hs:=A3r (n:=k) (hcn.1 e);rw [<-hsn] at hs;rw [decide_eq_true e,JJ] at hJ;simp only [List.set_cons_succ,List.set_cons_zero,List.cons_append,List.nil_append] at hJ;refine zJ Qw8 (zc @hltI (zc @e1 (zc @A05 Qw8))) Qw8 (zc hJ Qw8) Qw8 ?_;refine ⟨(i+1,c,F.set (rt a) (rt b)),Weak.headN 2 35 [4,6,7,21,22,23] (zV @A0Y),?_,?_⟩
    ·exact ⟨hlt,by simp only; omega,tn⟩
    ·simp only; omega
   ·have hs:=A27 (n:=k) ha hb (fun h=>e (hcn.2 h));rw [<-hsn] at hs;rw [decide_eq_false e,Qq2] at hJ;simp only [List.set_cons_succ,List.set_cons_zero,List.cons_append,List.nil_append] at hJ;refine zJ Qw8 (zc @hltI (zc @e1 (zc @A05 Qw8))) Qw8 (zc hJ Qw8) Qw8 ?_;refine ⟨(i+1,c-1,F.set (rt a) (rt b)),Weak.headN 2 35 [4,6,7,21,22,23] (zV @A0Y),?_,?_⟩
    ·exact ⟨hlt,by simp only; omega,tn⟩
    ·simp only; omega
  ·have ei:i=L.length:=by omega
   subst ei;rw [Zw] at hcc;have hnl: ¬((L.length:Int)<L.length):=by omega
   by_cases h1:ncls k (Conn L)=1
   ·rw [if_pos h1,if_neg (by omega)];have hc1: ¬(1<c):=by omega
    refine zR (zc @hnl (zc @hc1 Qw8)) Qw8 Qw8 ?_;simp [A0z,A0y,Blk.cells,ty,Tryz.results76,A0t,A0u,toT,A0d,A0b,A0c,A0a,A0m,A0B]
   ·rw [if_neg h1,if_pos (by omega)];have hc1:1<c:=by omega
    refine zR (zc @hnl (zc @hc1 Qw8)) Qw8 Qw8 ?_;simp [A0z,A0y,Blk.cells,ty,Tryz.results76,A0t,A0u,toT,A0d,A0b,A0c,A0a,A0m,A0B,A1b]
theorem B4u {A B:List (Int×Int)} (h:A5i (A++B)):A5i A:=fun k p hp=>by
 have hk:=(Qx.1 hp).1;have:=h k p (by rw [Qk hk]; exact hp);rwa [ZQ (by omega)] at this
theorem C0F (n:Nat) (L:List (Int×Int)) (t:List Int) (h0:0<n) (hn:n≤12) (hL:InN n L) (ht: ∀x,x∈t->0≤x∧x<L.length) (hLl:L.length<2^40) (htl:t.length<2^40):
  ACall Tryz.prog 181 [A0m n,A0B L,A0n t] (A0v (treeB n L t)):=by
 have hg:=A8A;have htb:=B5L h0 hL ht;have hr12:(List.range 12).length=12:=Vj;have hz0:=TCe.zero;generalize hR:List.range 12=R at*;have hof:(fT R).map A03=fC R:=B58 R;have hst:=A3p A2v R (by rw [hr12]; rfl);have hz:fC A2v=[.int .i64 0,.int .i64 0,.int .i64 0,.int .i64 0,.int .i64 0,.int .i64 0,.int .i64 0,.int .i64 0,.int .i64 0,.int .i64 0,.int .i64 0,.int .i64 0]:=rfl;rw [hz] at hst;unfold tF at hg;refine ACall.of_body Tryz.func181 rfl (by kernel_rfl) ?_;simp only [entry,Tryz.ntmps181,A0B,A0n,A0m];refine zU ?_;refine zR (zc @A0e (zc @A0U (zc @A3T (zc @hof (zc @hst (zc @hr12 Qw8)))))) (zc hg Qw8) Qw8 ?_;refine AWp.loopS (α:=(Nat×List Nat)) 29 (fun s=>[(0,.c (.int .i64 (n:Int))),(1,.c (.slice (A1b L) .none)),(2,.c (.slice (A0o t) .none)),(7,.c (.ptr 0 0)),(11,.c (.slice (A0o t) .none)),(12,.c (.int .i64 (t.length:Int))),(13,.c (.int .i64 (s.1:Int)))]) (fun s=>[.box (fC s.2)]) (fun s=>s.1≤t.length∧TCe (pkL L (t.take s.1)) s.2∧A5i (pkL L (t.take s.1))) (fun s=>t.length-s.1) ((0,R)) (hk:=Weak.headL 1 29 [0,1,2,7,11,12,13] (zV @A0Y)) (h0:=?_) (round:=fun s hI=>?_)
 ·exact ⟨Xj _,hz0,A3W⟩
 ·obtain ⟨i,F⟩:=s;obtain ⟨hi,hT,hac⟩:=hI;simp only at hi hT hac ⊢;by_cases hlt:i<t.length
  ·have hltI:(i:Int)<t.length:=by omega
   have e0:=Qq hlt;have e1:=A0w e0;have hsn:pkL L (t.take (i+1))=pkL L (t.take i)++[L.getD t[i].toNat (0,0)]:=by
    unfold pkL; rw [XX hlt,WY]; rfl
   have hpre:pkL L t=pkL L (t.take (i+1))++pkL L (t.drop (i+1)):=by
    unfold pkL; rw [<-WY,Wy]
   have hx:=ht _ (Xv hlt);generalize t[i]=x at*;obtain ⟨z,rfl⟩:=XV hx.1;have hzl:z<L.length:=by have:=hx.2; omega
   have g0:=Qq hzl;have g1:=A2P g0;rw [show ((z:Nat):Int).toNat=z from rfl,Qz,g0,Option.getD_some] at hsn;have hrng:=hL _ (Xv hzl);generalize L[z]=p at*;obtain ⟨pa,pb⟩:=p;obtain ⟨a,rfl⟩:=XV hrng.1.1;obtain ⟨b,rfl⟩:=XV hrng.2.1;have ha:a<n:=by have:=hrng.1.2; simp only at this; omega
   have hb:b<n:=by have:=hrng.2.2; simp only at this; omega
   change pkL L (t.take (i+1))=pkL L (t.take i)++[((a:Int),(b:Int))] at hsn;change (A1b L)[z]? =some [.int .i64 (a:Int),.int .i64 (b:Int)] at g1;change (A0o t)[i]? =some [.int .i64 (z:Int)] at e1;have hzI:(z:Int)<(L.length:Int):=by omega
   obtain ⟨rt,dp,tc⟩:=hT;have tn:=tc.snoc (a:=a) (b:=b) (by omega) (by omega);rw [<-hsn] at tn;have hJ:=A78 tc.tf a b (by omega) (by omega) (H:=[.box (fC F)]) (id:=0) rfl;have hcn:=tc.conn a b (by omega) (by omega);by_cases e:rt a=rt b
   ·have hfalse:treeB n L t=false:=by
     rw [Bool.eq_false_iff];intro h;have:=B4u (hpre▸(htb.1 h).1);rw [hsn,A3C] at this;exact this.2 (hcn.1 e)
    rw [decide_eq_true e,JJ] at hJ;simp only [List.set_cons_succ,List.set_cons_zero,List.cons_append,List.nil_append] at hJ;rw [hfalse];refine zJ Qw8 (zc @hltI (zc @e1 (zc @g1 (zc @hzI (zc @A05 (zc @A0e Qw8)))))) Qw8 (zc hJ Qw8) Qw8 ?_;simp [A0z,A0y,Blk.cells,ty,Tryz.results181,A0t,A0u,toT,A0d,A0b,A0c,A0a,A0v]
   ·have hac2:A5i (pkL L (t.take (i+1))):=by
     rw [hsn,A3C];exact ⟨hac,fun h=>e (hcn.2 h)⟩
    rw [decide_eq_false e,Qq2] at hJ;simp only [List.set_cons_succ,List.set_cons_zero,List.cons_append,List.nil_append] at hJ;refine zJ Qw8 (zc @hltI (zc @e1 (zc @g1 (zc @hzI (zc @A05 (zc @A0e Qw8)))))) Qw8 (zc hJ Qw8) Qw8 ?_;refine ⟨(i+1,F.set (rt a) (rt b)),Weak.headN 1 29 [0,1,2,7,11,12,13] (zV @A0Y),?_,?_⟩
    ·exact ⟨hlt,tn,hac2⟩
    ·simp only; omega
  ·have ei:i=t.length:=by omega
   subst ei;rw [Zw] at hac;have hnl: ¬((t.length:Int)<t.length):=by omega
   by_cases hq:(t.length:Int)=(n:Int)-1
   ·rw [htb.2 ⟨hac,hq⟩];refine zR (zc @hnl (zc @A0e (zc @hq Qw8))) Qw8 Qw8 ?_;simp [A0z,A0y,Blk.cells,ty,Tryz.results181,A0t,A0u,toT,A0d,A0b,A0c,A0a,A0v]
   ·have hfalse:treeB n L t=false:=by
     rw [Bool.eq_false_iff];exact fun h=>hq (htb.1 h).2
    rw [hfalse];refine zR (zc @hnl (zc @A0e (zc @hq Qw8))) Qw8 Qw8 ?_;simp [A0z,A0y,Blk.cells,ty,Tryz.results181,A0t,A0u,toT,A0d,A0b,A0c,A0a,A0v]
end Go.Proofs.YtdbdfkohpjefjaaGreat
