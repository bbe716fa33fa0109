/- A part of the proof. -/
import Derived.Test.YtdbdfkohpjefjaaGreatPart13
import Derived.Test.YtdbdfkohpjefjaaGreatPart14
import Derived.Test.YtdbdfkohpjefjaaGreatPart15
set_option linter.all false
set_option maxHeartbeats 4000000
set_option maxRecDepth 100000
namespace Go.Proofs.YtdbdfkohpjefjaaGreat
open Go.Sp
def B3d {g:G} (hc:checkG g=0) (p:Int×Int):p∈A2a g.es↔p∈endsL g.es:=by
 constructor
 ·intro h;obtain ⟨e,he,rfl⟩:=QJ.1 h;have:=(A0j.1 hc).2.1 e he;unfold okE at this;exact Jq.2 ⟨e,he,YY.2 ⟨by omega,rfl⟩⟩
 ·intro h;obtain ⟨e,he,rfl⟩:=A3T h;exact QJ.2 ⟨e,he,rfl⟩
variable {F:List Nat}
def B4A (hF:FOk F): ∀n,n≤12->rootsN F n=(A0M F n).length:=by
 intro n
 induction n with
 | zero=>intro _; rfl
 | succ n ih=>
  intro hn;rw [A4p];simp only [rootsN,ih (by omega)];by_cases h:rootF F 12 n=n
  ·rw [if_pos h,if_pos ((B11 hF (by omega)).1 h)]; simp
  ·rw [if_neg h,if_neg (fun e=>h ((B11 hF (by omega)).2 e))]; simp
def B7k {l m:List (Int×Int)} (hl:B9i l) (hm:B9i m) (h: ∀p,p∈l↔p∈m): ∀n,n≤12->rootsN (genS l).1 n=rootsN (genS m).1 n:=by
 intro n
 induction n with
 | zero=>intro _; rfl
 | succ n ih=>
  intro hn;simp only [rootsN,ih (by omega)];have h1:=A3W hl (v:=n) (by omega);have h2:=A3W hm (v:=n) (by omega);have h3:(∃u,u<n∧Conn l u n)↔(∃u,u<n∧Conn m u n):=
   ⟨fun ⟨u,h4,h5⟩=>⟨u,h4,h5.mono fun p hp=>(h p).1 hp⟩,fun ⟨u,h4,h5⟩=>⟨u,h4,h5.mono fun p hp=>(h p).2 hp⟩⟩
  by_cases e:(genS l).1[n]? =some n
  ·rw [if_pos e,if_pos (h2.2 fun x=>h1.1 e (h3.2 x))]
  ·rw [if_neg e,if_neg (fun x=>e (h1.2 fun y=>h2.1 x (h3.1 y)))]
def B3e {g:G} {n:Nat} (hc:checkG g=0) (hn:g.n=n):(A1n (genS (A2a g.es)).1 n).length=A2p g.es n n:=by
 have h12:=(A0j.1 hc).1;have hp:=A7y hc;have he:B9i (endsL g.es):=fun p h=>hp p ((B3d hc p).2 h);have h1:=A5Z hc hn n (QQ _);have h2:=B7k hp he (B3d hc) n (by omega);have h3:=B4A (uf _ hp).ok n (by omega);rw [A0P]; omega
def B17 (g:G) (hl:g.es.length<2^30):ACall Tryz.prog 167 [tG g] (.tup [A0S (if checkG g≠0 then [] else A1n (genS (A2a g.es)).1 g.n.toNat),A0n (checkG g)]):=by
 have hC:=A8h g (by omega);by_cases hc:checkG g=0
 ·have hJ:=B7f g hc hl;have hF:=(uf _ (A7y hc)).ok;have h12:=(A0j.1 hc).1;rw [if_neg (by omega),hc];rw [hc] at hC;have hlF:=hF.len;unfold tF at hJ;obtain ⟨n,es⟩:=g;simp only at hJ h12 ⊢;generalize (genS (A2a es)).1=F at*
  have hP3:=B96 F hF n.toNat (by omega) (by omega) [.int .i64 n,.slice (A0f es) .none] (fun m _ c hc=>by
   simp only [Qw,Qv,or_false] at hc
   rcases hc with rfl | rfl<;>exact Qv4) (fun c hc=>by
   simp only [Qw,Qv,or_false] at hc
   rcases hc with rfl | rfl<;>rfl)
  rw [show ((n.toNat:Nat):Int)=n by omega] at hP3;generalize A1n F n.toNat=ps at*;have hof:(fT F).map A02=fC F:=B6V F;have hst:=A3B A2A F (by rw [hlF]; rfl);have hz:fC A2A=[.int .i64 0,.int .i64 0,.int .i64 0,.int .i64 0,.int .i64 0,.int .i64 0,.int .i64 0,.int .i64 0,.int .i64 0,.int .i64 0,.int .i64 0,.int .i64 0]:=rfl;rw [hz] at hst;refine ACall.of_body Tryz.func167 rfl (by kernel_rfl) ?_;simp only [entry,Tryz.ntmps167,tG];refine zU ?_;refine zJ Qv6 (zc @A1d (zc @A4q (zc @hof (zc @hst (zc @hlF Qv6))))) (zc hC (zc hJ Qv6)) (zc hP3 Qv6) Qv6 ?_;simp [A00,A0z,Blk.cells,ty,Tryz.results167,A0v,A0w,toT,A0d,A0b,A0c,A0a,A0n,A0S]
 ·rw [if_pos hc];generalize checkG g=E at*;obtain ⟨n,es⟩:=g;refine ACall.of_body Tryz.func167 rfl (by kernel_rfl) ?_;simp only [entry,Tryz.ntmps167,tG];refine zU ?_;refine zR (zc @hc Qv6) (zc hC Qv6) Qv6 ?_;simp [A00,A0z,Blk.cells,ty,Tryz.results167,A0v,A0w,toT,A0d,A0b,A0c,A0a,A0n,A0S,A0u]
def A3D (g:G) (hl:g.es.length<2^30):ACall Tryz.prog 129 [tG g] (.tup [A0x (decide (checkG g=0)&&connB g),A0n (checkG g)]):=by
 have hC:=B17 g hl;by_cases hc:checkG g=0
 ·have h12:=(A0j.1 hc).1;have hcnt:=B3e (n:=g.n.toNat) hc (by omega);rw [if_neg (by omega)] at hC;have hb:(decide (checkG g=0)&&connB g)=decide (((A1n (genS (A2a g.es)).1 g.n.toNat).length:Int)=1):=by
   rw [decide_eq_true hc,VY];unfold connB;rw [<-hcnt];exact decide_eq_decide.2 (by omega)
  rw [hb];generalize A1n (genS (A2a g.es)).1 g.n.toNat=ps at*;generalize checkG g=E at*;obtain ⟨n,es⟩:=g;refine ACall.of_body Tryz.func129 rfl (by kernel_rfl) ?_;simp only [entry,Tryz.ntmps129,tG];refine zU ?_;refine zR (zc @A0o Qv6) (zc hC Qv6) Qv6 ?_;simp [A00,A0z,Blk.cells,ty,Tryz.results129,A0v,A0w,toT,A0d,A0b,A0c,A0a,A0n,A0x]
 ·rw [if_pos hc] at hC;rw [decide_eq_false hc,Qq4];generalize checkG g=E at*;obtain ⟨n,es⟩:=g;refine ACall.of_body Tryz.func129 rfl (by kernel_rfl) ?_;simp only [entry,Tryz.ntmps129,tG];refine zU ?_;refine zR (zc @A0o Qv6) (zc hC Qv6) Qv6 ?_;simp [A00,A0z,Blk.cells,ty,Tryz.results129,A0v,A0w,toT,A0d,A0b,A0c,A0a,A0n,A0x]
structure RSm (r:R):Prop where
 es:r.es.length≤40
 ar:r.ar.length<2^20
 l: ∀l,l∈r.ar->l.length<2^20
def A1T {g:G} (hl:g.es.length≤40) (hc:checkG g=0):(endsL g.es).length≤2000:=by
 obtain ⟨_,h2,_⟩:=A0j.1 hc;have:=A60 (es:=g.es) fun e he=>by have:=h2 e he; unfold okE at this; omega
 omega
def B0G (g:G) (hl:g.es.length≤40):ACall Tryz.prog 130 [tG g] (.tup [A0E (if checkG g≠0 then [] else endsL g.es),A0n (A0t g)]):=by
 have hE:=B4b g (by omega);have hC:=A3D g (by omega);unfold A0t;by_cases hc:checkG g=0
 ·rw [if_neg (by omega)] at hE ⊢;rw [if_neg (by omega)];rw [hc,decide_eq_true rfl,VY] at hC;generalize connB g=b at*;generalize endsL g.es=L at*;obtain ⟨n,es⟩:=g;refine ACall.of_body Tryz.func130 rfl (by kernel_rfl) ?_;simp only [entry,Tryz.ntmps130,tG];refine zU ?_;cases b with
  | true=>
   rw [if_pos rfl];refine zR Qv6 (zc hE (zc hC Qv6)) Qv6 ?_;simp [A00,A0z,Blk.cells,ty,Tryz.results130,A0v,A0w,toT,A0d,A0b,A0c,A0a,A0n,A0E]
  | false=>
   rw [if_neg (by simp)];refine zR Qv6 (zc hE (zc hC Qv6)) Qv6 ?_;simp [A00,A0z,Blk.cells,ty,Tryz.results130,A0v,A0w,toT,A0d,A0b,A0c,A0a,A0n,A0E]
 ·rw [if_pos hc] at hE ⊢;rw [if_pos hc];generalize checkG g=E at*;obtain ⟨n,es⟩:=g;refine ACall.of_body Tryz.func130 rfl (by kernel_rfl) ?_;simp only [entry,Tryz.ntmps130,tG];refine zU ?_;refine zR (zc @hc Qv6) (zc hE Qv6) Qv6 ?_;simp [A00,A0z,Blk.cells,ty,Tryz.results130,A0v,A0w,toT,A0d,A0b,A0c,A0a,A0n,A0E,A1g]
def B4B (r:R) (hr:RSm r):ACall Tryz.prog 105 [tR r] (.tup [A0E (if ribE r≠0 then [] else endsL r.es),A0n (ribE r)]):=by
 have hJ:=B0G r.g hr.es;by_cases hj:A0t r.g=0
 case neg=>
  have e:ribE r=A0t r.g:=by unfold ribE; rw [if_pos hj]
  rw [e,if_pos hj];have hL: ∃L,(if checkG r.g≠0 then [] else endsL r.g.es)=L:=⟨_,rfl⟩;obtain ⟨L,hL⟩:=hL;rw [hL] at hJ;generalize A0t r.g=E at*;obtain ⟨n,es,ar⟩:=r;refine ACall.of_body Tryz.func105 rfl (by kernel_rfl) ?_;simp only [entry,Tryz.ntmps105,tR];refine zU ?_;refine zR (zc @hj Qv6) (zc hJ Qv6) Qv6 ?_;simp [A00,A0z,Blk.cells,ty,Tryz.results105,A0v,A0w,toT,A0d,A0b,A0c,A0a,A0n,A0E,A1g]
 have hc:checkG r.g=0:=by
  unfold A0t at hj;by_cases h:checkG r.g=0
  ·exact h
  ·rw [if_pos h] at hj; exact absurd hj h
 have h12:=(A0j.1 hc).1;rw [if_neg (by omega),hj] at hJ;have hlen:=A1T (g:=r.g) hr.es hc;have hat: ∀h,h<2*(endsL r.es).length->0≤atL (endsL r.es) h∧atL (endsL r.es) h<(r.n.toNat:Nat):=fun h hh=>by
  have h12':1≤r.n:=h12.1;have:=A1J hc hh; omega
 have hn:r.n=(r.n.toNat:Nat):=by have h12':1≤r.n:=h12.1; omega
 have hnb:r.n≤12:=h12.2;have hA:=hr.ar;have hLl:=hr.l;have eR:ribE r=if (r.ar.length:Int)≠r.n then 8 else A5A (endsL r.es) (2*(endsL r.es).length) 0 r.ar:=by unfold ribE; rw [if_neg (by omega)]
 rw [eR];have hH:=B2J (endsL r.es) r.n.toNat (by omega) (by have:(endsL r.es).length≤2000:=hlen; omega) hat;rw [<-hn] at hH;clear hr hj hc h12 hat eR;obtain ⟨n,es,ar⟩:=r;simp only [R.g] at hJ hlen hH hn hnb hA hLl ⊢;generalize endsL es=L at*;generalize hk:n.toNat=k at*;subst hn;refine ACall.of_body Tryz.func105 rfl (by kernel_rfl) ?_;simp only [entry,Tryz.ntmps105,tR];refine zU ?_;by_cases hlen2:ar.length=k
 case neg=>
  have hI: ¬((ar.length:Int)=k):=by omega
  rw [if_pos hI];refine zR (zc @A0o (zc @hI Qv6)) (zc hJ Qv6) Qv6 ?_;simp [A00,A0z,Blk.cells,ty,Tryz.results105,A0v,A0w,toT,A0d,A0b,A0c,A0a,A0n,A0E,A1g]
 have hI:(ar.length:Int)=k:=by omega
 rw [if_neg (show ¬((ar.length:Int)≠(k:Int)) by omega)];refine zR (zc @A0o (zc @hI (zc @A0J Qv6))) (zc hJ (zc hH Qv6)) Qv6 ?_;refine AWp.loopS (α:=Nat) 48 (fun i=>[(1,.c (.ptr 0 0)),(4,.c (.slice (A1g L) .none)),(29,.c (.slice (A0u (A1l L k (2*L.length))) .none)),(30,.c (.int .i64 (k:Int))),(31,.c (.int .i64 (i:Int)))]) (fun i=>[.box [.int .i64 (k:Int),.slice (A0f es) .none,.slice (A0u ar) .none]]) (fun i=>i≤k∧A5A L (2*L.length) 0 ar=A5A L (2*L.length) i (ar.drop i)) (fun i=>k-i) (0) (hk:=Weak.headL 1 48 [1,4,29,30,31] zW) (h0:=?_) (round:=fun i hI=>?_)
 ·exact ⟨Xw _,rfl⟩
 ·obtain ⟨hi,hI2⟩:=hI;by_cases hlt:i<k
  ·have hltI:(i:Int)<k:=by omega
   have hil:i<ar.length:=by omega
   have e0:=Qq hil;have e1:=A0U e0;have e2:=A0U (A3m (L:=L) (k:=2*L.length) hlt);have hd:=Zz hil;have hl:=hLl _ (Xk hil);generalize ar[i]=l at*;have hol:=A8m L (i:Int) (2*L.length);have hlist:=C4r l (ownL L (i:Int) (2*L.length)) (A9c _ _ _) (by omega) (by omega);have hg:A5A L (2*L.length) i (l::ar.drop (i+1))=if A1m l (ownL L (i:Int) (2*L.length))≠0 then A1m l (ownL L (i:Int) (2*L.length)) else A5A L (2*L.length) (i+1) (ar.drop (i+1)):=rfl
   rw [<-hd,<-hI2] at hg;generalize A1m l (ownL L (i:Int) (2*L.length))=E at*;by_cases hE:E=0
   ·rw [if_neg (by omega)] at hg;subst hE;refine zR (zc @hltI (zc @A0o (zc @hI (zc @e1 (zc @e2 Qv6))))) (zc hlist Qv6) Qv6 ?_;refine ⟨i+1,Weak.headN 1 48 [1,4,29,30,31] zW,?_,?_⟩
    ·exact ⟨hlt,hg⟩
    ·omega
   ·rw [if_pos hE] at hg;rw [hg,if_pos hE];refine zR (zc @hltI (zc @A0o (zc @hI (zc @e1 (zc @e2 (zc @hE Qv6)))))) (zc hlist Qv6) Qv6 ?_;simp [A00,A0z,Blk.cells,ty,Tryz.results105,A0v,A0w,toT,A0d,A0b,A0c,A0a,A0n,A0E,A1g]
  ·have ei:i=k:=by omega
   subst ei;have hz:A5A L (2*L.length) 0 ar=0:=by rw [hI2,JY (by omega)]; rfl
   have hnl: ¬((i:Int)<i):=by omega
   rw [hz,if_neg (by omega)];refine zR (zc @hnl Qv6) Qv6 Qv6 ?_;simp [A00,A0z,Blk.cells,ty,Tryz.results105,A0v,A0w,toT,A0d,A0b,A0c,A0a,A0n,A0E]
open Classical in
def A93 {N n:Nat} (g:Nat->Nat) (hr: ∀x,x<N->g x<n) (hs: ∀v,v<n-> ∃x,x<N∧g x=v):ncls N (fun x y=>g x=g y)=n:=by
 unfold ncls;generalize hl:List.filter _ (List.range N)=l;have hmem: ∀h,h∈l↔h<N∧ ∀y,y<N->g h=g y->h≤y:=fun h=>by rw [<-hl]; simp
 have hnd:l.Nodup:=by rw [<-hl]; exact List.nodup_range.filter _
 have hinj: ∀a b,a∈l->b∈l->g a=g b->a=b:=fun a b ha hb e=>by
  have h1:=(hmem a).1 ha;have h2:=(hmem b).1 hb;have:=h1.2 b h2.1 e;have:=h2.2 a h1.1 e.symm;omega
 have hnd2:(l.map g).Nodup:=by
  rw [List.Nodup,JQ];exact List.Pairwise.imp_of_mem (fun {a b} ha hb hne e=>hne (hinj a b ha hb e)) hnd
 have h1:=YZ hnd2 (l₂:=List.range n) (fun v hv=>by
  obtain ⟨x,hx,rfl⟩:=QJ.1 hv
  exact Xy.2 (hr x ((hmem x).1 hx).1))
 have h2:=YZ (Qq8 (n:=n)) (l₂:=l.map g) (fun v hv=>by
  obtain ⟨x,hx,e⟩:=hs v (Xy.1 hv);obtain ⟨m,m1,⟨m2,m3⟩,m4⟩:=A8i (P:=fun y=>y<N∧g y=v) ⟨hx,e⟩
  exact QJ.2 ⟨m,(hmem m).2 ⟨m2,fun y hy he=>m4 y ⟨hy,by rw [<-he,m3]⟩⟩,m3⟩)
 simp at h1 h2;omega
def A5c {l:List (Int×Int)} {a b:Nat} {x y:Nat}:Conn (l++[((a:Int),(b:Int))]) x y↔Conn l x y∨(Conn l a x∨Conn l b x)∧(Conn l a y∨Conn l b y):=by
 constructor
 ·intro h
  induction h with
  | refl=>exact .inl .refl
  | @step u w _ hs ih=>
   have hor:(((u:Int),(w:Int))∈l∨((w:Int),(u:Int))∈l)∨(u=a∧w=b)∨(u=b∧w=a):=by
    rcases hs with h | h<;>rcases XY.1 h with h | h
    ·exact .inl (.inl h)
    ·simp at h; exact .inr (.inl ⟨by omega,by omega⟩)
    ·exact .inl (.inr h)
    ·simp at h; exact .inr (.inr ⟨by omega,by omega⟩)
   rcases hor with h | ⟨rfl,rfl⟩ | ⟨rfl,rfl⟩
   ·rcases ih with ih | ⟨i1,i2⟩
    ·exact .inl (ih.step h)
    ·exact .inr ⟨i1,i2.imp (fun q=>q.step h) (fun q=>q.step h)⟩
   ·rcases ih with ih | ⟨i1,i2⟩
    ·exact .inr ⟨.inl ih.symm,.inr .refl⟩
    ·exact .inr ⟨i1,.inr .refl⟩
   ·rcases ih with ih | ⟨i1,i2⟩
    ·exact .inr ⟨.inr ih.symm,.inl .refl⟩
    ·exact .inr ⟨i1,.inl .refl⟩
 ·have hm: ∀{u w},Conn l u w->Conn (l++[((a:Int),(b:Int))]) u w:=fun h=>h.mono fun p hp=>Qw4 _ hp;have hab:Conn (l++[((a:Int),(b:Int))]) a b:= .one (.inl (by simp));rintro (h | ⟨h1,h2⟩)
  ·exact hm h
  ·rcases h1 with h1 | h1<;>rcases h2 with h2 | h2
   ·exact (hm h1).symm.trans (hm h2)
   ·exact (hm h1).symm.trans (hab.trans (hm h2))
   ·exact (hm h1).symm.trans (hab.symm.trans (hm h2))
   ·exact (hm h1).symm.trans (hm h2)
def A54 (N:Nat) (l:List (Int×Int)):Eqv N (Conn l):=⟨fun _ _=> .refl,fun _ _ _ _ h=>h.symm,fun _ _ _ _ _ _ h1 h2=>h1.trans h2⟩
open Classical in
def B7l {g:G} {n:Nat} (hc:checkG g=0) (hn:g.n=n):A2p g.es n n=ncls n (Conn (endsL g.es)):=by
 have h12:=(A0j.1 hc).1;have h1:=A5Z hc hn n (QQ _);rw [B14] at h1;have h2:A2p g.es n n=((List.range n).filter fun v=>decide ((genS (endsL g.es)).1[v]? =some v)).length:=by omega
 rw [h2];unfold ncls;congr 1;refine Qw3 fun v hv=> ?_;have hv':=Xy.1 hv;have hin:B9i (endsL g.es):=fun p hp=>by have:=A2i hc hn p hp; omega
 rw [decide_eq_decide,A3W hin (by omega)];constructor
 ·intro H y hy hcn;exact Nat.le_of_not_lt fun hlt=>H ⟨y,hlt,hcn.symm⟩
 ·rintro H ⟨u,hu,hcn⟩;have:=H u (by omega) hcn.symm;omega
structure Emb (E n:Nat) (L:List (Int×Int)) (s:Nat->Nat) (g:Nat->Nat):Prop where
 len:L.length=E
 perm:PermN (2*E) s
 lt: ∀x,x<2*E->g x<n
 ends: ∀k,k<E->L[k]? =some (((g (2*k):Nat):Int),((g (2*k+1):Nat):Int))
 keep: ∀x,x<2*E->g (s x)=g x
section
variable {E n:Nat} {L:List (Int×Int)} {s g:Nat->Nat}
end
def C3A {l:List Int} (hn:l.Nodup) {i:Nat} {x:Int} (h:l[i]? =some x):l.idxOf x=i:=by
 obtain ⟨hi,e⟩:=Qx.1 h;obtain ⟨q1,q2⟩:=A3A (Qy h);have:=(Qx.1 q2).2;exact B5z hn q1 hi (this.trans e.symm)
section
variable {r:R}
end
def C7p (i n:Nat):Int.tmod ((i:Int)+1) (n:Int)=(((i+1)%n:Nat):Int):=rfl
def B5G {l:List Int} (hn:l.Nodup) {s:Nat->Nat} (hs: ∀x:Nat,(x:Int)∈l->((s x:Nat):Int)=A9d l (x:Int)) {x:Nat} (hx:(x:Int)∈l): ∀k,l[(l.idxOf (x:Int)+k)%l.length]? =some ((it s k x:Nat):Int)
 | 0=>by
  obtain ⟨h1,h2⟩:=A3A hx;rw [Nat.add_zero,Vj h1,h2]; rfl
 | k+1=>by
  have ih:=B5G hn hs hx k;obtain ⟨h1,h2⟩:=A3A hx;have hm:=Qy ih;have hnx:=hs _ hm;unfold A9d at hnx;rw [C3A hn ih] at hnx;have hlt:((l.idxOf (x:Int)+k)%l.length+1)%l.length<l.length:=VZ _ (by omega);have e:((l.idxOf (x:Int)+k)%l.length+1)%l.length=(l.idxOf (x:Int)+(k+1))%l.length:=by rw [Nat.mod_add_mod]; rfl
  rw [e] at hnx hlt;rw [Qz,Qq hlt,Option.getD_some] at hnx;rw [Qq hlt];show _=some (((s (it s k x)):Nat):Int);rw [hnx]
def C4K {l:List Int} (hn:l.Nodup) {s:Nat->Nat} (hs: ∀x:Nat,(x:Int)∈l->((s x:Nat):Int)=A9d l (x:Int)) {x y:Nat} (hx:(x:Int)∈l) (hy:(y:Int)∈l):A3L s x y:=by
 obtain ⟨h1,h2⟩:=A3A hx;obtain ⟨h3,h4⟩:=A3A hy;refine ⟨l.idxOf (y:Int)+(l.length-l.idxOf (x:Int)),?_⟩;have h5:=B5G hn hs hx (l.idxOf (y:Int)+(l.length-l.idxOf (x:Int)));rw [show l.idxOf (x:Int)+(l.idxOf (y:Int)+(l.length-l.idxOf (x:Int)))=l.idxOf (y:Int)+l.length by omega,Nat.add_mod_right,Vj h3,h4] at h5;have:=JX h5;omega
def A4t (n:Nat):ncls n (Conn [])=n:=by
 have:=A93 (N:=n) (n:=n) (fun x=>x) (fun x hx=>hx) (fun v hv=>⟨v,hv,rfl⟩);rw [<-A2u (R:=Conn []) (S:=fun x y=>x=y) fun x y _ _=> ?_] at this
 ·exact this
 ·constructor
  ·intro hc;cases hc with
   | refl=>rfl
   | step _ hs=>simp at hs
  ·rintro rfl; exact .refl
open Classical in
def A6H {N:Nat} {R:Nat->Nat->Prop} (hR:Eqv N R) (h:ncls N R=1) {x y:Nat} (hx:x<N) (hy:y<N):R x y:=by
 unfold ncls at h;generalize hl:List.filter _ (List.range N)=l at h;have hmem: ∀h,h∈l↔h<N∧ ∀y,y<N->R h y->h≤y:=fun h=>by rw [<-hl]; simp
 have lead: ∀x,x<N-> ∃m,m<N∧R x m∧m∈l:=fun x hx=>by
  obtain ⟨m,m1,⟨m2,m3⟩,m4⟩:=A8i (P:=fun y=>y<N∧R x y) ⟨hx,hR.refl x hx⟩;exact ⟨m,m2,m3,(hmem m).2 ⟨m2,fun y hy hr=>m4 y ⟨hy,hR.trans x m y hx m2 hy m3 hr⟩⟩⟩
 obtain ⟨a,a1,a2,a3⟩:=lead x hx;obtain ⟨b,b1,b2,b3⟩:=lead y hy;obtain ⟨c,rfl⟩: ∃c,l=[c]:=List.length_eq_one_iff.1 h;have e:a=b:=by simp at a3 b3; rw [a3,b3]
 subst e;exact hR.trans x a y hx a1 hy a2 (hR.symm y a hy a1 b2)
def sR (L:List (Int×Int)) (ar:List (List Int)) (x:Nat):Nat:=(nextR L ar x).toNat
def gR (L:List (Int×Int)) (x:Nat):Nat:=(atL L x).toNat
def A2K {r:R} (hr:ROk r):Emb (endsL r.es).length r.n.toNat (endsL r.es) (sR (endsL r.es) r.ar) (gR (endsL r.es)):=by
 refine ⟨rfl,⟨fun x hx=> ?_,fun x y hx hy e=> ?_⟩,fun x hx=> ?_,fun k hk=> ?_,fun x hx=> ?_⟩
 ·have:=hr.next hx; unfold sR; omega
 ·have h1:=hr.next hx;have h2:=hr.next hy;unfold sR at e;exact hr.next_inj hx hy (by omega)
 ·have:=A1J hr.c hx; unfold gR; omega
 ·have h1:=A1J hr.c (show 2*k<2*(endsL r.es).length by omega);have h2:=A1J hr.c (show 2*k+1<2*(endsL r.es).length by omega);have e:=Qq hk;have a1:atL (endsL r.es) (2*k)=(endsL r.es)[k].1:=by
   unfold atL; rw [if_pos (by omega),show 2*k / 2=k by omega,Qz,e]; rfl
  have a2:atL (endsL r.es) (2*k+1)=(endsL r.es)[k].2:=by
   unfold atL; rw [if_neg (by omega),show (2*k+1) / 2=k by omega,Qz,e]; rfl
  rw [e];congr 1;refine Prod.ext ?_ ?_
  ·show _=(((atL (endsL r.es) (2*k)).toNat:Nat):Int); rw [<-a1]; omega
  ·show _=(((atL (endsL r.es) (2*k+1)).toNat:Nat):Int); rw [<-a2]; omega
 ·show (atL (endsL r.es) (sR (endsL r.es) r.ar x)).toNat=(atL (endsL r.es) x).toNat;unfold sR;rw [(hr.next hx).2.2]
structure TF (F:List Nat) (rt dp:Nat->Nat):Prop where
 len:F.length=12
 lt: ∀i (h:i<F.length),F[i]<12
 same: ∀i (h:i<F.length),rt F[i]=rt i
 self: ∀i (h:i<F.length),F[i]=i->rt i=i
 down: ∀i (h:i<F.length),F[i]≠i->dp F[i]<dp i
 rlt: ∀i,i<12->rt i<12
 fix: ∀i,i<12->F[rt i]? =some (rt i)
def TF.zero:TF (List.range 12) (fun v=>v) (fun _=>0):=
 ⟨by simp,fun i h=>by simpa using h,fun i h=>by simp,fun i h _=>rfl,fun i h e=>absurd (by simp) e,fun i h=>h,fun i h=>by simp [h]⟩
section
variable {F:List Nat} {rt dp:Nat->Nat}
def TF.idem (h:TF F rt dp) {i:Nat} (hi:i<12):rt (rt i)=rt i:=by
 have hf:=h.fix i hi;obtain ⟨q1,q2⟩:=Qx.1 hf;exact h.self _ q1 q2
def TF.join (h:TF F rt dp) {a b:Nat} (ha:a<12) (hb:b<12) (hne:rt a≠rt b):
  TF (F.set (rt a) (rt b)) (fun v=>if rt v=rt a then rt b else rt v) (fun v=>if rt v=rt a then dp v+dp (rt b)+1 else dp v):=by
 have ra:=h.rlt a ha;have rb:=h.rlt b hb;have ia:=h.idem ha;have ib:=h.idem hb;have fa:=h.fix a ha;have fb:=h.fix b hb;have hl:=h.len;refine ⟨by rw [Yw]; exact hl,fun i hi=> ?_,fun i hi=> ?_,fun i hi e=> ?_,fun i hi e=> ?_,fun i hi=> ?_,fun i hi=> ?_⟩
 ·rw [Qz2]; split
  ·exact rb
  ·exact h.lt i (by simpa using hi)
 ·have hi':i<F.length:=by simpa using hi
  rw [Qz2];by_cases e:rt a=i
  ·rw [if_pos e];subst e;simp only [ia,ib,if_true];rw [if_neg (fun e=>hne e.symm)]
  ·rw [if_neg e];simp only [h.same i hi']
 ·have hi':i<F.length:=by simpa using hi
  rw [Qz2] at e;by_cases e2:rt a=i
  ·rw [if_pos e2] at e; exact absurd (e2.trans e.symm) hne
  ·rw [if_neg e2] at e;have:=h.self i hi' e;simp only [this];rw [if_neg (fun e=>e2 e.symm)]
 ·have hi':i<F.length:=by simpa using hi
  rw [Qz2] at e ⊢;by_cases e2:rt a=i
  ·subst e2;simp only [if_true,ia,ib];rw [if_neg (fun e=>hne e.symm)];omega
  ·rw [if_neg e2] at e ⊢;have hs:=h.same i hi';have hd:=h.down i hi' e;simp only [hs];split<;>omega
 ·split
  ·exact rb
  ·exact h.rlt i hi
 ·by_cases e:rt i=rt a
  ·rw [if_pos e,QX hne]; exact fb
  ·rw [if_neg e,QX (fun x=>e x.symm)]; exact h.fix i hi
def TF.stay (h:TF F rt dp) {a b:Nat} (ha:a<12) (e:rt a=rt b):F.set (rt a) (rt b)=F:=by
 have fa:=h.fix a ha;obtain ⟨q1,q2⟩:=Qx.1 fa;apply Zx;intro i;by_cases hi:rt a=i
 ·subst hi; rw [QZ q1,fa,e]
 ·rw [QX hi]
end
structure TC (L:List (Int×Int)) (F:List Nat) (rt dp:Nat->Nat):Prop where
 tf:TF F rt dp
 conn: ∀u w,u<12->w<12->(rt u=rt w↔Conn L u w)
def TCe (L:List (Int×Int)) (F:List Nat):Prop:= ∃rt dp,TC L F rt dp
def B3f {u w:Nat}:Conn [] u w↔u=w:=by
 constructor
 ·intro h;cases h with
  | refl=>rfl
  | step _ hs=>simp at hs
 ·rintro rfl; exact .refl
def TCe.zero:TCe [] (List.range 12):=⟨_,_,TF.zero,fun u w _ _=>B3f.symm⟩
def TC.snoc {L:List (Int×Int)} {rt dp:Nat->Nat} (h:TC L F rt dp) {a b:Nat} (ha:a<12) (hb:b<12):TCe (L++[((a:Int),(b:Int))]) (F.set (rt a) (rt b)):=by
 obtain ⟨tf,cn⟩:=h;by_cases e:rt a=rt b
 ·rw [tf.stay ha e];refine ⟨rt,dp,tf,fun u w hu hw=> ?_⟩;have hc:=(cn a b ha hb).1 e;rw [A5c,cn u w hu hw];constructor
  ·exact .inl
  ·rintro (q | ⟨q1,q2⟩)
   ·exact q
   ·rcases q1 with q1 | q1<;>rcases q2 with q2 | q2
    ·exact q1.symm.trans q2
    ·exact q1.symm.trans (hc.trans q2)
    ·exact q1.symm.trans (hc.symm.trans q2)
    ·exact q1.symm.trans q2
 ·refine ⟨_,_,tf.join ha hb e,fun u w hu hw=> ?_⟩;rw [A5c];have c1:=cn u w hu hw;have c2:=cn a u ha hu;have c3:=cn b u hb hu;have c4:=cn a w ha hw;have c5:=cn b w hb hw;rw [<-c1,<-c2,<-c3,<-c4,<-c5];generalize rt u=p at*;generalize rt w=q at*;generalize rt a=c at*;generalize rt b=d at*;by_cases x:p=c<;>by_cases y:q=c
  ·rw [if_pos x,if_pos y]; omega
  ·rw [if_pos x,if_neg y]; omega
  ·rw [if_neg x,if_pos y]; omega
  ·rw [if_neg x,if_neg y]; omega
def acyc (M:List (Int×Int)):Prop:= ∀k p,M[k]? =some p-> ¬Conn (M.take k) p.1.toNat p.2.toNat
def A2B {M:List (Int×Int)} {p:Int×Int}:acyc (M++[p])↔acyc M∧ ¬Conn M p.1.toNat p.2.toNat:=by
 constructor
 ·intro h;refine ⟨fun k q hq=> ?_,?_⟩
  ·have hk:=(Qx.1 hq).1;have:=h k q (by rw [Qk hk]; exact hq);rwa [ZQ (by omega)] at this
  ·have:=h M.length p (by rw [QV (by omega)]; simp);rwa [ZQ (by omega),Zy] at this
 ·rintro ⟨h1,h2⟩ k q hq;rw [List.getElem?_append] at hq;split at hq
  ·rename_i hk;rw [ZQ (by omega)];exact h1 k q hq
  ·have hk:k=M.length:=by
    have:=(Qx.1 hq).1;simp at this; omega
   subst hk;simp at hq; subst hq;rw [ZQ (by omega),Zy];exact h2
def A3E:acyc []:=fun k p h=>by simp at h
def A3F {n:Nat} {M:List (Int×Int)} {a b:Nat} (h:Conn M a b):ncls n (Conn (M++[((a:Int),(b:Int))]))=ncls n (Conn M):=A2u fun x y _ _=>by
 rw [A5c];constructor
 ·rintro (q | ⟨q1,q2⟩)
  ·exact q
  ·rcases q1 with q1 | q1<;>rcases q2 with q2 | q2
   ·exact q1.symm.trans q2
   ·exact q1.symm.trans (h.trans q2)
   ·exact q1.symm.trans (h.symm.trans q2)
   ·exact q1.symm.trans q2
 ·exact .inl
def A2P {n:Nat} {M:List (Int×Int)} {a b:Nat} (ha:a<n) (hb:b<n) (h: ¬Conn M a b):ncls n (Conn (M++[((a:Int),(b:Int))]))+1=ncls n (Conn M):=
 B8B (A54 n M) ha hb h fun x y _ _=>A5c
open Classical in
def C26 {n:Nat} {R:Nat->Nat->Prop} (h:0<n):1≤ncls n R:=by
 unfold ncls;exact List.length_pos_of_mem (Yq.2 ⟨Xy.2 h,decide_eq_true fun y _ _=>Xw _⟩)
def InN (n:Nat) (M:List (Int×Int)):Prop:= ∀p,p∈M->(0≤p.1∧p.1<n)∧(0≤p.2∧p.2<n)
def A4u {n:Nat} (M:List (Int×Int)) (h:InN n M):n≤ncls n (Conn M)+M.length∧(acyc M↔ncls n (Conn M)+M.length=n):=by
 revert h;refine A2O (P:=fun M=>InN n M->n≤ncls n (Conn M)+M.length∧(acyc M↔ncls n (Conn M)+M.length=n)) ?_ ?_ M
 ·intro _;rw [A4t];exact ⟨QQ _,fun _=>rfl,fun _=>A3E⟩
 ·intro M p ih h;obtain ⟨i1,i2⟩:=ih fun q hq=>h q (by simp [hq]);have hp:=h p (by simp);obtain ⟨p1,p2⟩:=p;obtain ⟨a,rfl⟩:=XV hp.1.1;obtain ⟨b,rfl⟩:=XV hp.2.1;have ha:a<n:=by have:=hp.1.2; simp only at this; omega
  have hb:b<n:=by have:=hp.2.2; simp only at this; omega
  rw [A2B,Xv,List.length_singleton,i2];show _∧(_∧ ¬Conn M a b↔_);by_cases hc:Conn M a b
  ·have e:ncls n (Conn (M++[(((a:Nat):Int),((b:Nat):Int))]))=_:=A3F hc;rw [e];exact ⟨by omega,fun ⟨_,q⟩=>absurd hc q,fun q=>by omega⟩
  ·have e:ncls n (Conn (M++[(((a:Nat):Int),((b:Nat):Int))]))+1=_:=A2P ha hb hc;exact ⟨by omega,fun ⟨q,_⟩=>by omega,fun q=>⟨by omega,hc⟩⟩
def pkL (L:List (Int×Int)) (t:List Int):List (Int×Int):=t.map fun x=>L.getD x.toNat (0,0)
def A2x (L:List (Int×Int)) (t:List Int):(pkL L t).length=t.length:=by simp [pkL]
def A94 {n:Nat} {L:List (Int×Int)} {t:List Int} (hL:InN n L) (ht: ∀x,x∈t->0≤x∧x<L.length):InN n (pkL L t):=fun p hp=>by
 obtain ⟨x,hx,rfl⟩:=QJ.1 hp;have:=ht x hx;rw [Qz,Qq (by omega)];exact hL _ (Xk _)
open Classical in
noncomputable def treeB (n:Nat) (L:List (Int×Int)) (t:List Int):Bool:=decide ((t.length:Int)=n-1∧ncls n (Conn (pkL L t))=1)
def B7m {n:Nat} (h0:0<n) {L:List (Int×Int)} {t:List Int} (hL:InN n L) (ht: ∀x,x∈t->0≤x∧x<L.length):treeB n L t=true↔acyc (pkL L t)∧(t.length:Int)=n-1:=by
 unfold treeB;rw [decide_eq_true_eq,(A4u _ (A94 hL ht)).2,A2x];omega
def A72 {n:Int}: ∀{p:Option Int} {l:List Int},A47 n p l=0-> ∀x,x∈l->0≤x∧x<n
 | _,[],_,x,hx=>by cases hx
 | p,v::l,h,x,hx=>by
  rw [A47] at h;by_cases hv:0≤v∧v<n
  ·rw [if_neg (by omega)] at h;split at h
   ·omega
   ·rcases Qw.1 hx with rfl | hx
    ·exact hv
    ·exact A72 h x hx
  ·rw [if_pos hv] at h; omega
noncomputable def A7Y (g:G) (t:List Int):Int:=
 if A0t g≠0 then A0t g else if A47 (endsL g.es).length none t≠0 then A47 (endsL g.es).length none t
 else if (t.length:Int)≠g.n-1 then 8 else if treeB g.n.toNat (endsL g.es) t=true then 0 else 3
def A95:ACall Tryz.prog 123 [] (tF (List.range 12)):=by
 refine ACall.of_body Tryz.func123 rfl (by kernel_rfl) ?_;simp only [entry,Tryz.ntmps123];refine zU ?_;refine zR Qv6 Qv6 Qv6 ?_;refine AWp.loopS (α:=Nat) 11 (fun i=>[(0,.c (.ptr 0 0)),(1,.c (.ptr 1 0)),(3,.c (.int .i64 (i:Int)))]) (fun i=>[.box (fC (List.replicate 12 0)),.box (fC (A7r i))]) (fun i=>i≤12) (fun i=>12-i) (0) (hk:=Weak.headL 2 11 [0,1,3] (zV @A1c)) (h0:=?_) (round:=fun i hI=>?_)
 ·exact Xw _
 ·by_cases hlt:i<12
  ·have hset:=A9h hlt;have hlen:=A9i hI;generalize A7r i=F at*;refine zR (zc @A1d (zc @hlen (zc @A9g (zc @A5W (zc @hset Qv6))))) Qv6 Qv6 ?_;refine ⟨i+1,Weak.headN 2 11 [0,1,3] (zV @A1c),?_,?_⟩
   ·exact hlt
   ·omega
  ·have ei:i=12:=by omega
   subst ei;rw [B10];have hl:(List.range 12).length=12:=Vk;generalize List.range 12=F at*;have ht:(fC F).take 12=fC F:=ZZ (by rw [A1d,hl]; exact QQ _);have hs:=A3B (List.replicate 12 0) F (by simp [hl]);have hlr:(List.replicate 12 0:List Nat).length=12:=by simp
   generalize List.replicate 12 0=Z at*;refine zR (zc @A1d (zc @hl (zc @hlr (zc @ht (zc @hs (zc @A4q Qv6)))))) Qv6 Qv6 ?_;have hm:=A6C [Blk.box (fC F),Blk.box (fC F)] F;simp [A00,A0z,Blk.cells,ty,Tryz.results123,A0v,A0w,toT,A0d,A0b,A0c,A0a,hm,hl,ht,A1d,tF]
def C27 {rt dp:Nat->Nat} (h:TF F rt dp) (v:Nat) (hv:v<12):ACall Tryz.prog 166 [.t (.rptr (fT F)),A0n v] (A0n (rt v)):=by
 have hF:=h.len;refine ACall.of_body Tryz.func166 rfl (by kernel_rfl) ?_;simp only [entry,Tryz.ntmps166,A0n];refine zU ?_;refine zR Qv6 Qv6 Qv6 ?_;refine AWp.loopS (α:=Nat) 18 (fun u=>[(0,.c (.rptr (fT F))),(1,.c (.int .i64 (u:Int)))]) (fun u=>[]) (fun u=>u<12∧rt v=rt u) (fun u=>dp u) (v) (hk:=Weak.headL 0 18 [0,1] (zV @A1c)) (h0:=?_) (round:=fun u hI=>?_)
 ·exact ⟨hv,rfl⟩
 ·obtain ⟨hu,hx⟩:=hI;have hul:u<F.length:=by omega
  have e1:=B4k hul;have e2:=h.same u hul;have e3:=h.lt u hul;have e4:=h.self u hul;have e5:=h.down u hul;refine zM Qv6 (zc @e1 Qv6) Qv6 Qv6 Qv6 (zc (ed fun hp hpc=>?_) (ed fun hp hpc=>?_))
  ·have hne:F[u]≠u:=by omega
   refine ⟨F[u],Weak.headN 0 18 [0,1] (zV @A1c),?_,?_⟩
   ·exact ⟨e3,by rw [hx,e2]⟩
   ·exact e5 hne
  ·have e:rt v=u:=by rw [hx]; exact e4 (by omega)
   simp [A00,A0z,Blk.cells,ty,Tryz.results166,A0v,A0w,toT,A0d,A0b,A0c,A0a,A0n,e]
def A73 {rt dp:Nat->Nat} (h:TF F rt dp) (v:Nat) (hv:v<12) {H:List Blk} {id:Nat} (hb:H[id]? =some (.box (fC F))):
  ACallH Tryz.prog 166 H [.c (.ptr id 0),.c (.int .i64 (v:Int))] H (.c (.int .i64 (rt v:Nat))):=
 ACall.hb (C27 h v hv) (by simp [toT,A0d,A0b,hb,Blk.cells,B1z,A0a,A0n]) rfl
def A8p {rt dp:Nat->Nat} (h:TF F rt dp) (a b:Nat) (ha:a<12) (hb:b<12) {H:List Blk} {id:Nat} (hid:H[id]? =some (.box (fC F))):
  ACallH Tryz.prog 124 H [.c (.ptr id 0),.agg [.int .i64 (a:Int),.int .i64 (b:Int)]] (H.set id (.box (fC (F.set (rt a) (rt b))))++[.box [.int .i64 (a:Int),.int .i64 (b:Int)]]) (.c (.bool (!decide (rt a=rt b)))):=by
 have hil:id<H.length:=(Qx.1 hid).1;have hid2: ∀B:Blk,(H++[B])[id]? =some (.box (fC F)):=fun B=>by rw [Qk hil]; exact hid
 have hst: ∀B X:Blk,(H++[B]).set id X=H.set id X++[B]:=fun B X=>Qx2 _ _ hil;have hnew: ∀B:Blk,(H++[B])[H.length]? =some B:=fun B=>by simp
 have rx:=A73 h a ha (hid2 (.box [.int .i64 (a:Int),.int .i64 (b:Int)]));have ry:=A73 h b hb (hid2 (.box [.int .i64 (a:Int),.int .i64 (b:Int)]));have la:=h.rlt a ha;have lb:=h.rlt b hb;have hlen:=h.len;generalize rt a=x at*;generalize rt b=y at*;refine ACallH.of_body Tryz.func124 rfl (by kernel_rfl) ?_;simp only [entry,Tryz.ntmps124,List.length_cons,List.length_nil,Nat.reduceAdd,Nat.reduceSub,List.replicate_succ,List.replicate_zero,List.cons_append,List.nil_append];by_cases e:x=y
 ·subst e;rw [decide_eq_true rfl];refine zJ Qv6 (zc @A1d (zc @A9g (zc @A5W (zc @hlen (zc @hid2 (zc @hst (zc @hnew Qv6))))))) Qv6 (zc rx (zc ry Qv6)) Qv6 ?_;simp [A4O,A2c,A0v,A2b,Tryz.results124]
 ·rw [decide_eq_false e];have eI: ¬((x:Int)=(y:Int)):=by omega
  refine zJ Qv6 (zc @A1d (zc @A9g (zc @A5W (zc @hlen (zc @hid2 (zc @hst (zc @hnew (zc @eI Qv6)))))))) Qv6 (zc rx (zc ry Qv6)) Qv6 ?_;simp [A4O,A2c,A0v,A2b,Tryz.results124]
def A2W {g:G} {n:Nat} (hc:checkG g=0) (hn:g.n=n):connB g=decide (ncls n (Conn (endsL g.es))=1):=by
 unfold connB;rw [show g.n.toNat=n by omega,B7l hc hn]
def B5H (g:G) (hl:g.es.length≤40):ACall Tryz.prog 76 [tG g] (.tup [A0E (if A0t g≠0 then [] else endsL g.es),A0n (A0t g)]):=by
 have hE:=B4b g (by omega);have hg:=A95;by_cases hc:checkG g=0
 case neg=>
  have ej:A0t g=checkG g:=by unfold A0t; rw [if_pos hc]
  rw [ej,if_pos hc];rw [if_pos hc] at hE;generalize checkG g=E at*;obtain ⟨n,es⟩:=g;refine ACall.of_body Tryz.func76 rfl (by kernel_rfl) ?_;simp only [entry,Tryz.ntmps76,tG];refine zU ?_;refine zR (zc @hc Qv6) (zc hE Qv6) Qv6 ?_;simp [A00,A0z,Blk.cells,ty,Tryz.results76,A0v,A0w,toT,A0d,A0b,A0c,A0a,A0n,A0E,A1g]
 have h12:=(A0j.1 hc).1;obtain ⟨k,hk⟩:=XV (show 0≤g.n by omega);have hk':g.n=(k:Nat):=hk;have hcp:=A2W hc hk';have hin:InN k (endsL g.es):=fun p hp=>A2i hc hk' p hp;have hk0:0<k:=by omega
 have hk12:k≤12:=by omega
 have hll:(endsL g.es).length≤2000:=by
  have:=A60 (es:=g.es) fun e he=>by have:=(A0j.1 hc).2.1 e he; unfold okE at this; omega
  omega
 have ej:A0t g=if ncls k (Conn (endsL g.es))=1 then 0 else 13:=by
  unfold A0t;rw [if_neg (by omega),hcp];by_cases h:ncls k (Conn (endsL g.es))=1
  ·rw [if_pos h,if_pos (by simp [h])]
  ·rw [if_neg h,if_neg (by simp [h])]
 rw [ej];rw [if_neg (by omega)] at hE;clear ej hcp hc h12 hk';obtain ⟨n,es⟩:=g;simp only at hE hk hin hll ⊢;subst hk;generalize endsL es=L at*;have hr12:(List.range 12).length=12:=Vk;have hz0:=TCe.zero;have hnk:=A4t k;have hps:=C26 (R:=Conn L) hk0;generalize hR:List.range 12=R at*;have hof:(fT R).map A02=fC R:=B6V R;have hst:=A3B A2A R (by rw [hr12]; rfl);have hz:fC A2A=[.int .i64 0,.int .i64 0,.int .i64 0,.int .i64 0,.int .i64 0,.int .i64 0,.int .i64 0,.int .i64 0,.int .i64 0,.int .i64 0,.int .i64 0,.int .i64 0]:=rfl;rw [hz] at hst;unfold tF at hg;change ACall _ _ [tG ⟨((k:Nat):Int),es⟩] _ at hE;show ACall _ _ [tG ⟨((k:Nat):Int),es⟩] _;refine ACall.of_body Tryz.func76 rfl (by kernel_rfl) ?_;simp only [entry,Tryz.ntmps76,tG];refine zU ?_;refine zR (zc @A08 (zc @A1d (zc @A4q (zc @hof (zc @hst (zc @hr12 Qv6)))))) (zc hE (zc hg Qv6)) Qv6 ?_;refine AWp.loopS (α:=(Nat×Int×List Nat)) 35 (fun s=>[(4,.c (.slice (A1g L) .none)),(6,.c (.ptr 1 0)),(7,.c (.int .i64 s.2.1)),(21,.c (.slice (A1g L) .none)),(22,.c (.int .i64 (L.length:Int))),(23,.c (.int .i64 (s.1:Int)))]) (fun s=>[.box [.int .i64 (k:Int),.slice (A0f es) .none],.box (fC s.2.2)]) (fun s=>s.1≤L.length∧s.2.1=(ncls k (Conn (L.take s.1)):Nat)∧TCe (L.take s.1) s.2.2) (fun s=>L.length-s.1) ((0,(k:Int),R)) (hk:=Weak.headL 2 35 [4,6,7,21,22,23] (zV @A1c)) (h0:=?_) (round:=fun s hI=>?_)
 ·exact ⟨Xw _,by simp only [List.take_zero]; rw [hnk],hz0⟩
 ·obtain ⟨i,c,F⟩:=s;obtain ⟨hi,hcc,hT⟩:=hI;simp only at hi hcc hT ⊢;by_cases hlt:i<L.length
  ·have hltI:(i:Int)<L.length:=by omega
   have e0:=Qq hlt;have e1:=A27 e0;have hsn:=take_snoc e0;have hrng:=hin _ (Xk hlt);generalize L[i]=p at*;obtain ⟨pa,pb⟩:=p;obtain ⟨a,rfl⟩:=XV hrng.1.1;obtain ⟨b,rfl⟩:=XV hrng.2.1;have ha:a<k:=by have:=hrng.1.2; simp only at this; omega
   have hb:b<k:=by have:=hrng.2.2; simp only at this; omega
   change L.take (i+1)=L.take i++[((a:Int),(b:Int))] at hsn;change (A1g L)[i]? =some [.int .i64 (a:Int),.int .i64 (b:Int)] at e1;obtain ⟨rt,dp,tc⟩:=hT;have tn:=tc.snoc (a:=a) (b:=b) (by omega) (by omega);rw [<-hsn] at tn;have hJ:=A8p tc.tf a b (by omega) (by omega) (H:=[.box [.int .i64 (k:Int),.slice (A0f es) .none],.box (fC F),.box [.int .i64 (a:Int),.int .i64 (b:Int)]]) (id:=1) rfl;have hcn:=tc.conn a b (by omega) (by omega);have hcb:(ncls k (Conn (L.take i)):Int)≤12:=by
    have:ncls k (Conn (L.take i))≤k:=by
     unfold ncls;refine Yj (Jw _ _) ?_;rw [Vk]; exact QQ _
    omega
   by_cases e:rt a=rt b
   ·have hs:=A3F (n:=k) (hcn.1 e);rw [<-hsn] at hs;rw [decide_eq_true e,VJ] at hJ;simp only [List.set_cons_succ,List.set_cons_zero,List.cons_append,List.nil_append] at hJ;refine zJ Qv6 (zc @hltI (zc @e1 (zc @A08 Qv6))) Qv6 (zc hJ Qv6) Qv6 ?_;refine ⟨(i+1,c,F.set (rt a) (rt b)),Weak.headN 2 35 [4,6,7,21,22,23] (zV @A1c),?_,?_⟩
    ·exact ⟨hlt,by simp only; omega,tn⟩
    ·simp only; omega
   ·have hs:=A2P (n:=k) ha hb (fun h=>e (hcn.2 h));rw [<-hsn] at hs;rw [decide_eq_false e,Qx3] at hJ;simp only [List.set_cons_succ,List.set_cons_zero,List.cons_append,List.nil_append] at hJ;refine zJ Qv6 (zc @hltI (zc @e1 (zc @A08 Qv6))) Qv6 (zc hJ Qv6) Qv6 ?_;refine ⟨(i+1,c-1,F.set (rt a) (rt b)),Weak.headN 2 35 [4,6,7,21,22,23] (zV @A1c),?_,?_⟩
    ·exact ⟨hlt,by simp only; omega,tn⟩
    ·simp only; omega
  ·have ei:i=L.length:=by omega
   subst ei;rw [Zy] at hcc;have hnl: ¬((L.length:Int)<L.length):=by omega
   by_cases h1:ncls k (Conn L)=1
   ·rw [if_pos h1,if_neg (by omega)];have hc1: ¬(1<c):=by omega
    refine zR (zc @hnl (zc @hc1 Qv6)) Qv6 Qv6 ?_;simp [A00,A0z,Blk.cells,ty,Tryz.results76,A0v,A0w,toT,A0d,A0b,A0c,A0a,A0n,A0E]
   ·rw [if_neg h1,if_pos (by omega)];have hc1:1<c:=by omega
    refine zR (zc @hnl (zc @hc1 Qv6)) Qv6 Qv6 ?_;simp [A00,A0z,Blk.cells,ty,Tryz.results76,A0v,A0w,toT,A0d,A0b,A0c,A0a,A0n,A0E,A1g]
def B5I {A B:List (Int×Int)} (h:acyc (A++B)):acyc A:=fun k p hp=>by
 have hk:=(Qx.1 hp).1;have:=h k p (by rw [Qk hk]; exact hp);rwa [ZQ (by omega)] at this
def C28 (n:Nat) (L:List (Int×Int)) (t:List Int) (h0:0<n) (hn:n≤12) (hL:InN n L) (ht: ∀x,x∈t->0≤x∧x<L.length) (hLl:L.length<2^40) (htl:t.length<2^40):
  ACall Tryz.prog 181 [A0n n,A0E L,A0q t] (A0x (treeB n L t)):=by
 have hg:=A95;have htb:=B7m h0 hL ht;have hr12:(List.range 12).length=12:=Vk;have hz0:=TCe.zero;generalize hR:List.range 12=R at*;have hof:(fT R).map A02=fC R:=B6V R;have hst:=A3B A2A R (by rw [hr12]; rfl);have hz:fC A2A=[.int .i64 0,.int .i64 0,.int .i64 0,.int .i64 0,.int .i64 0,.int .i64 0,.int .i64 0,.int .i64 0,.int .i64 0,.int .i64 0,.int .i64 0,.int .i64 0]:=rfl;rw [hz] at hst;unfold tF at hg;refine ACall.of_body Tryz.func181 rfl (by kernel_rfl) ?_;simp only [entry,Tryz.ntmps181,A0E,A0q,A0n];refine zU ?_;refine zR (zc @A0e (zc @A1d (zc @A4q (zc @hof (zc @hst (zc @hr12 Qv6)))))) (zc hg Qv6) Qv6 ?_;refine AWp.loopS (α:=(Nat×List Nat)) 29 (fun s=>[(0,.c (.int .i64 (n:Int))),(1,.c (.slice (A1g L) .none)),(2,.c (.slice (A0p t) .none)),(7,.c (.ptr 0 0)),(11,.c (.slice (A0p t) .none)),(12,.c (.int .i64 (t.length:Int))),(13,.c (.int .i64 (s.1:Int)))]) (fun s=>[.box (fC s.2)]) (fun s=>s.1≤t.length∧TCe (pkL L (t.take s.1)) s.2∧acyc (pkL L (t.take s.1))) (fun s=>t.length-s.1) ((0,R)) (hk:=Weak.headL 1 29 [0,1,2,7,11,12,13] (zV @A1c)) (h0:=?_) (round:=fun s hI=>?_)
 ·exact ⟨Xw _,hz0,A3E⟩
 ·obtain ⟨i,F⟩:=s;obtain ⟨hi,hT,hac⟩:=hI;simp only at hi hT hac ⊢;by_cases hlt:i<t.length
  ·have hltI:(i:Int)<t.length:=by omega
   have e0:=Qq hlt;have e1:=A0y e0;have hsn:pkL L (t.take (i+1))=pkL L (t.take i)++[L.getD t[i].toNat (0,0)]:=by
    unfold pkL; rw [XZ hlt,WY]; rfl
   have hpre:pkL L t=pkL L (t.take (i+1))++pkL L (t.drop (i+1)):=by
    unfold pkL; rw [<-WY,Jv]
   have hx:=ht _ (Xk hlt);generalize t[i]=x at*;obtain ⟨z,rfl⟩:=XV hx.1;have hzl:z<L.length:=by have:=hx.2; omega
   have g0:=Qq hzl;have g1:=A27 g0;rw [show ((z:Nat):Int).toNat=z from rfl,Qz,g0,Option.getD_some] at hsn;have hrng:=hL _ (Xk hzl);generalize L[z]=p at*;obtain ⟨pa,pb⟩:=p;obtain ⟨a,rfl⟩:=XV hrng.1.1;obtain ⟨b,rfl⟩:=XV hrng.2.1;have ha:a<n:=by have:=hrng.1.2; simp only at this; omega
   have hb:b<n:=by have:=hrng.2.2; simp only at this; omega
   change pkL L (t.take (i+1))=pkL L (t.take i)++[((a:Int),(b:Int))] at hsn;change (A1g L)[z]? =some [.int .i64 (a:Int),.int .i64 (b:Int)] at g1;change (A0p t)[i]? =some [.int .i64 (z:Int)] at e1;have hzI:(z:Int)<(L.length:Int):=by omega
   obtain ⟨rt,dp,tc⟩:=hT;have tn:=tc.snoc (a:=a) (b:=b) (by omega) (by omega);rw [<-hsn] at tn;have hJ:=A8p tc.tf a b (by omega) (by omega) (H:=[.box (fC F)]) (id:=0) rfl;have hcn:=tc.conn a b (by omega) (by omega);by_cases e:rt a=rt b
   ·have hfalse:treeB n L t=false:=by
     rw [Bool.eq_false_iff];intro h;have:=B5I (hpre▸(htb.1 h).1);rw [hsn,A2B] at this;exact this.2 (hcn.1 e)
    rw [decide_eq_true e,VJ] at hJ;simp only [List.set_cons_succ,List.set_cons_zero,List.cons_append,List.nil_append] at hJ;rw [hfalse];refine zJ Qv6 (zc @hltI (zc @e1 (zc @g1 (zc @hzI (zc @A08 (zc @A0e Qv6)))))) Qv6 (zc hJ Qv6) Qv6 ?_;simp [A00,A0z,Blk.cells,ty,Tryz.results181,A0v,A0w,toT,A0d,A0b,A0c,A0a,A0x]
   ·have hac2:acyc (pkL L (t.take (i+1))):=by
     rw [hsn,A2B];exact ⟨hac,fun h=>e (hcn.2 h)⟩
    rw [decide_eq_false e,Qx3] at hJ;simp only [List.set_cons_succ,List.set_cons_zero,List.cons_append,List.nil_append] at hJ;refine zJ Qv6 (zc @hltI (zc @e1 (zc @g1 (zc @hzI (zc @A08 (zc @A0e Qv6)))))) Qv6 (zc hJ Qv6) Qv6 ?_;refine ⟨(i+1,F.set (rt a) (rt b)),Weak.headN 1 29 [0,1,2,7,11,12,13] (zV @A1c),?_,?_⟩
    ·exact ⟨hlt,tn,hac2⟩
    ·simp only; omega
  ·have ei:i=t.length:=by omega
   subst ei;rw [Zy] at hac;have hnl: ¬((t.length:Int)<t.length):=by omega
   by_cases hq:(t.length:Int)=(n:Int)-1
   ·rw [htb.2 ⟨hac,hq⟩];refine zR (zc @hnl (zc @A0e (zc @hq Qv6))) Qv6 Qv6 ?_;simp [A00,A0z,Blk.cells,ty,Tryz.results181,A0v,A0w,toT,A0d,A0b,A0c,A0a,A0x]
   ·have hfalse:treeB n L t=false:=by
     rw [Bool.eq_false_iff];exact fun h=>hq (htb.1 h).2
    rw [hfalse];refine zR (zc @hnl (zc @A0e (zc @hq Qv6))) Qv6 Qv6 ?_;simp [A00,A0z,Blk.cells,ty,Tryz.results181,A0v,A0w,toT,A0d,A0b,A0c,A0a,A0x]
end Go.Proofs.YtdbdfkohpjefjaaGreat
