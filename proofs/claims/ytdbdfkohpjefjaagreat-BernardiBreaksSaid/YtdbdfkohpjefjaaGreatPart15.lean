/- A part of the proof. -/
import Derived.Test.YtdbdfkohpjefjaaGreatPart12
import Derived.Test.YtdbdfkohpjefjaaGreatPart11
set_option linter.all false
set_option maxHeartbeats 4000000
set_option maxRecDepth 100000
namespace Go.Proofs.YtdbdfkohpjefjaaGreat
open Go.Sp
def B1J {f:Nat->Int} {a b:Nat} {x:E}:x∈B1G f a b↔ ∃j,j<b∧a≤j∧0<f j∧x=⟨a,j,f j⟩:=by
 simp only [B1G,List.mem_filterMap,Xk];constructor
 ·rintro ⟨j,hj,h⟩;split at h
  ·rename_i hc; cases h; exact ⟨j,hj,hc.1,hc.2,rfl⟩
  ·cases h
 ·rintro ⟨j,hj,h1,h2,rfl⟩;exact ⟨j,hj,by rw [if_pos ⟨h1,h2⟩]⟩
def B3n {f:Nat->Nat->Int} {n a:Nat} {x:E}:x∈A3x f n a↔ ∃i j,i<a∧j<n∧i≤j∧0<f i j∧x=⟨i,j,f i j⟩:=by
 simp only [A3x,Jy,Xk,B1J];constructor
 ·rintro ⟨i,hi,j,h⟩; exact ⟨i,j,hi,h⟩
 ·rintro ⟨i,j,hi,h⟩; exact ⟨i,hi,j,h⟩
def B4O (f:Nat->Int) (a b:Nat):(B1G f a b).Pairwise ltE:=by
 induction b with
 | zero=>exact List.Pairwise.nil
 | succ b ih=>
  rw [B3f,Qx9];refine ⟨ih,by split<;>simp,fun x hx y hy=> ?_⟩;obtain ⟨j,hj,h1,h2,rfl⟩:=B1J.1 hx;split at hy
  ·obtain rfl:=XQ.1 hy;exact .inr ⟨rfl,Yx.2 hj⟩
  ·simp at hy
def A7T (f:Nat->Nat->Int) (n a:Nat):(A3x f n a).Pairwise ltE:=by
 induction a with
 | zero=>exact List.Pairwise.nil
 | succ a ih=>
  rw [A4b,Qx9];refine ⟨ih,B4O _ _ _,fun x hx y hy=> ?_⟩;obtain ⟨i,j,hi,hj,h1,h2,rfl⟩:=B3n.1 hx;obtain ⟨j',_,_,_,rfl⟩:=B1J.1 hy;exact .inl (Yx.2 hi)
def B5X {l:List E} (h:l.Pairwise ltE):l.Nodup:=h.imp fun {a b} h e=>by subst e; unfold ltE at h; omega
def A3o {es:List E} (h:distinctE es) {x:E} (hx:x∈es):A3I es x.a x.b=x.m:=by
 induction es with
 | nil=>cases hx
 | cons y ys ih=>
  have hp:=Jq.1 h;simp only [A3I];rcases QV.1 hx with rfl | hx
  ·rw [if_pos ⟨rfl,rfl⟩]
  ·have:=hp.1 x hx;unfold neE at this;rw [if_neg (by omega),ih hp.2 hx]
def A3p {es:List E} {a b:Int} (h:A3I es a b≠0):(⟨a,b,A3I es a b⟩:E)∈es:=by
 induction es with
 | nil=>simp [A3I] at h
 | cons y ys ih=>
  simp only [A3I] at h ⊢;by_cases hy:y.a=a∧y.b=b
  ·rw [if_pos hy];obtain ⟨ya,yb,ym⟩:=y;simp only at hy;obtain ⟨rfl,rfl⟩:=hy;simp
  ·rw [if_neg hy] at h ⊢;exact YY _ (ih h)
def C3a {es:List E} {n:Nat} (hs:es.Pairwise ltE) (hr: ∀e,e∈es->0≤e.a∧e.a≤e.b∧e.b<n∧1≤e.m):A3x (fun i j=>A3I es i j) n n=es:=by
 refine A4o (A7T _ _ _) hs ((WZ (B5X (A7T _ _ _)) (B5X hs)).2 fun x=> ?_);rw [B3n];constructor
 ·rintro ⟨i,j,hi,hj,hij,hp,rfl⟩;exact A3p (by omega)
 ·intro hx;have:=hr x hx;have hc:=A3o (B48 hs) hx;refine ⟨x.a.toNat,x.b.toNat,by omega,by omega,by omega,?_,?_⟩
  ·rw [show ((x.a.toNat:Nat):Int)=x.a by omega,show ((x.b.toNat:Nat):Int)=x.b by omega,hc]; omega
  ·rw [show ((x.a.toNat:Nat):Int)=x.a by omega,show ((x.b.toNat:Nat):Int)=x.b by omega,hc]
def C5l {f:Nat->Nat->Int} {es:List E} {n:Nat} (hs:es.Pairwise ltE) (hr: ∀e,e∈es->0≤e.a∧e.a≤e.b∧e.b<n∧1≤e.m) (hf: ∀i j:Nat,i≤j->j<n->f i j=A3I es i j):A3x f n n=es:=by
 rw [B4G hf n (Qk _),C3a hs hr]
def C0h {es fs:List E} (hp:es.Perm fs) (hd:distinctE es) (a b:Int):A3I es a b=A3I fs a b:=by
 have hd':distinctE fs:=(Qz4 neE.symm hp).1 hd;by_cases h:A3I es a b=0
 ·by_cases h2:A3I fs a b=0
  ·rw [h,h2]
  ·have:=A3p h2;have:=A3o hd (hp.mem_iff.2 this);exact this
 ·have:=A3p h;exact (A3o hd' (hp.mem_iff.1 this)).symm
def B5Y (es:List E) (a b m i j:Int):A3I (A19 es a b m) i j=if i=a∧j=b then m else A3I es i j:=by
 induction es with
 | nil=>
  simp only [A19,A3I];by_cases h:i=a∧j=b
  ·rw [if_pos h,if_pos ⟨h.1.symm,h.2.symm⟩]
  ·rw [if_neg h,if_neg fun x=>h ⟨x.1.symm,x.2.symm⟩]
 | cons x xs ih=>
  simp only [A19];by_cases hx:x.a=a∧x.b=b
  ·rw [if_pos hx];simp only [A3I];by_cases h:i=a∧j=b
   ·rw [if_pos h,if_pos ⟨h.1.symm,h.2.symm⟩]
   ·rw [if_neg h,if_neg fun x=>h ⟨x.1.symm,x.2.symm⟩,if_neg fun y=>h ⟨by omega,by omega⟩]
  ·rw [if_neg hx];simp only [A3I,ih];by_cases hy:x.a=i∧x.b=j
   ·rw [if_pos hy,if_pos hy,if_neg fun h=>hx ⟨by omega,by omega⟩]
   ·rw [if_neg hy,if_neg hy]
def cG (l:List (Int×Int)) (k a b:Nat):Int:=A3I (A5D (l.take k)) a b
def C5m {l:List (Int×Int)} {k n a b:Nat} {p:Int×Int} (h:l[k]? =some p) (ha:min p.1 p.2=(a:Int)) (hb:max p.1 p.2=(b:Int)):
  A6g n (fun i j=>if i=a∧j=b then cG l k a b+1 else cG l k i j)=A6g n (cG l (k+1)):=by
 refine B76 fun i j _ _=> ?_;unfold cG;rw [take_snoc h,A64,A9i,B5Y,ha,hb];by_cases e:i=a∧j=b
 ·rw [if_pos e,if_pos ⟨by omega,by omega⟩]
 ·rw [if_neg e,if_neg fun x=>e ⟨by omega,by omega⟩]
def okP (n:Int) (p:Int×Int):Prop:=(0≤p.1∧p.1<n)∧(0≤p.2∧p.2<n)
def C3b (n:Int) (l:List (Int×Int)) (hl:l.length<2^40):ACall Tryz.prog 175 [A0j n,A06 l] (.tup [tG (A5W n l).1,A0j (A5W n l).2]):=by
 refine ACall.of_body Tryz.func175 rfl (by kernel_rfl) ?_;simp only [entry,Tryz.ntmps175,A0j,A06];refine zU ?_;by_cases hn:n<1∨12<n
 ·
  have e:A5W n l=(⟨0,[]⟩,2):=by unfold A5W; rw [if_pos hn]
  by_cases hn1:n<1
  ·
   refine zR (zc @hn1 Qv5) Qv5 Qv5 ?_;simp [A0s,A0r,Blk.cells,ty,Tryz.results175,A0o,A0p,toT,A0d,A0b,A0c,A0a,A0j,tG,e,A0f]
  ·have hn2:12<n:=by omega
   refine zR (zc @hn1 (zc @hn2 Qv5)) Qv5 Qv5 ?_;simp [A0s,A0r,Blk.cells,ty,Tryz.results175,A0o,A0p,toT,A0d,A0b,A0c,A0a,A0j,tG,e,A0f]
 have hn1: ¬n<1:=by omega
 have hn2: ¬12<n:=by omega
 by_cases hlen:(4096:Int)<(l.length:Int)
 ·
  have e:A5W n l=(⟨0,[]⟩,5):=by unfold A5W; rw [if_neg hn,if_pos (by omega)]
  refine zR (zc @hn1 (zc @hn2 (zc @A0z (zc @hlen Qv5)))) Qv5 Qv5 ?_;simp [A0s,A0r,Blk.cells,ty,Tryz.results175,A0o,A0p,toT,A0d,A0b,A0c,A0a,A0j,tG,e,A0f]
 obtain ⟨m,hm⟩: ∃m:Nat,n=m:=⟨n.toNat,by omega⟩;subst hm;have hT1:=B9N m (by omega);have hc0: ∀a b,cG l 0 a b=0:=fun a b=>rfl;rw [C5e m (cG l 0) hc0] at hT1;refine zJ Qv5 (zc @hn1 (zc @hn2 (zc @A0z (zc @hlen Qv5)))) Qv5 (zc hT1 Qv5) Qv5 ?_;refine AWp.loopS (α:=Nat) 93 (fun k=>[(0,.c (.int .i64 (m:Int))),(1,.c (.slice (A0U l) .none)),(4,.c (.ptr 0 0)),(6,.c (.rows (A4t 2 m m) (.chain 1))),(7,.c (.int .i64 (k:Int)))]) (fun k=>.box [.int .i64 0,.nils]:: .chain m 1::(A6g m (cG l k)).map rowB) (fun k=>k≤l.length∧(∀j,j<k-> ∀p,l[j]? =some p->okP m p)∧BagOk m k (A5D (l.take k))) (fun k=>l.length-k) (0) (hk:=Weak.headL (m+2) 93 [0,1,4,6,7] (zWs (zc @A3D (zc @A2c @A2d)))) (h0:=?_) (round:=fun k hI=>?_)
 ·exact ⟨Xj _,fun j hj=>by omega,List.Pairwise.nil,by simp [A5D],by simp [A5D],by simp [A5D]⟩
 ·obtain ⟨hk,hok,hbag⟩:=hI;by_cases hlt:k<l.length
  ·have e0:=Qq hlt;have e1:=A28 e0;generalize l[k]=p at*;by_cases hp:okP m p
   case neg=>
    have e:A5W m l=(⟨0,[]⟩,2):=by
     unfold A5W;rw [if_neg hn,if_neg (by omega),if_pos ⟨p,Qv e0,hp⟩]
    unfold okP at hp;refine zM Qv5 (zc @e1 (zc @A0z (zc @Yx Qv5))) Qv5 Qv5 Qv5 (zc (ed fun hp hpc=>?_) (zc (ed fun hp hpc=>?_) (zc (ed fun hp hpc=>?_) (ed fun hp hpc=>?_))))
    all_goals
     first
     | (exfalso; omega)
     | skip
    all_goals
     simp [A0s,A0r,Blk.cells,ty,Tryz.results175,A0o,A0p,toT,A0d,A0b,A0c,A0a,A0j,tG,e,A0f]
   obtain ⟨⟨p1,p2⟩,⟨p3,p4⟩⟩:=hp;obtain ⟨a,ha⟩: ∃a:Nat,min p.1 p.2=a:=⟨(min p.1 p.2).toNat,by omega⟩;obtain ⟨b,hb⟩: ∃b:Nat,max p.1 p.2=b:=⟨(max p.1 p.2).toNat,by omega⟩;have ham:a<m:=by omega
   have hbm:b<m:=by omega
   have hst:=C5m (n:=m) e0 ha hb;have hr:=A90 (base:=2) (n:=m) ham;have hrow:=A6E (cG l k) ham;have hg1:=B9Q hrow;have hset:=C2Q (cG l k) ham hbm (cG l k a b+1);rw [hst] at hset;have hcb:0≤cG l k a b∧cG l k a b≤k:=⟨B9h fun e he=>(hbag.m e he).1,B9g (fun e he=>(hbag.m e he).2) (by omega)⟩;have hrl:((List.range m).map fun b=>cG l k a b).length=m:=by simp
   have hrg:((List.range m).map fun b=>cG l k a b)[b]? =some (cG l k a b):=by simp [hbm]
   have hic:=A5K hrg;have hbag2:BagOk m (k+1) (A5D (l.take (k+1))):=by
    rw [take_snoc e0,A64]; exact B5G hbag ⟨p1,p2⟩ ⟨p3,p4⟩
   have q1: ¬p.1<0:=by omega
   have q2: ¬(m:Int)≤p.1:=by omega
   have q3: ¬p.2<0:=by omega
   have q4: ¬(m:Int)≤p.2:=by omega
   have hTn:A6g m (cG l (k+1))=A6g m (cG l (k+1)):=rfl;generalize ((List.range m).map fun b=>cG l k a b)=row at*;generalize A6g m (cG l k)=T at*;generalize cG l k a b=x at*;refine zR (zc @e1 (zc @A0z (zc @Yx (zc @q1 (zc @q2 (zc @q3 (zc @q4 (zc @ha (zc @hb (zc @hr (zc @hg1 (zc @hic (zc @A12 (zc @hrl (zc @A9j (zc @C5d (zc @hset Qv5))))))))))))))))) Qv5 Qv5 ?_;refine ⟨k+1,Weak.headN (m+2) 93 [0,1,4,6,7] (zWs (zc @A3D (zc @A2c @A2d))),?_,?_⟩
   ·refine ⟨hlt,fun j hj q hq=> ?_,hbag2⟩;by_cases hjk:j=k
    ·subst hjk;rw [e0] at hq; cases hq;exact ⟨⟨p1,p2⟩,⟨p3,p4⟩⟩
    ·exact hok j (by omega) q hq
   ·omega
  ·have ek:k=l.length:=by omega
   rw [ek] at hbag hok ⊢;have hcl: ∀a b,cG l l.length a b=A3I (A5D l) a b:=fun a b=>by unfold cG; rw [Zz]
   rw [Zz] at hbag;have hnob: ¬ ∃p,p∈l∧ ¬((0≤p.1∧p.1<(m:Int))∧(0≤p.2∧p.2<(m:Int))):=by
    rintro ⟨p,hp,hx⟩;obtain ⟨j,hj⟩:=Zj.1 hp;exact hx (hok j (Qx.1 hj).1 p hj)
   refine zR (zc @A0z (zc @Yx Qv5)) Qv5 Qv5 ?_;refine AWp.loopS (α:=Nat) 93 (fun a=>[(0,.c (.int .i64 (m:Int))),(4,.c (.ptr 0 0)),(6,.c (.rows (A4t 2 m m) (.chain 1))),(10,.c (.int .i64 (a:Int)))]) (fun a=>.box [.int .i64 0,.nils]:: .chain m 1::(A6g m (cG l l.length)).map rowB) (fun a=>a≤m∧ ∀i j:Nat,i<a->j<m->cG l l.length i j≤50) (fun a=>m-a) (0) (hk:=Weak.headL (m+2) 93 [0,4,6,10] (zWs (zc @A3D (zc @A2c @A2d)))) (h0:=?_) (round:=fun a hI=>?_)
   ·exact ⟨Xj _,fun i j hi=>by omega⟩
   ·obtain ⟨ha,hA⟩:=hI;by_cases hlta:a<m
    ·have hltaI:(a:Int)<m:=by omega
     refine zR (zc @hltaI Qv5) Qv5 Qv5 ?_;refine AWp.loopS (α:=Nat) 93 (fun b=>[(0,.c (.int .i64 (m:Int))),(4,.c (.ptr 0 0)),(6,.c (.rows (A4t 2 m m) (.chain 1))),(10,.c (.int .i64 (a:Int))),(11,.c (.int .i64 (b:Int)))]) (fun b=>.box [.int .i64 0,.nils]:: .chain m 1::(A6g m (cG l l.length)).map rowB) (fun b=>b≤m∧ ∀j:Nat,j<b->cG l l.length a j≤50) (fun b=>m-b) (0) (hk:=Weak.headL (m+2) 93 [0,4,6,10,11] (zWs (zc @A3D (zc @A2c @A2d)))) (h0:=?_) (round:=fun b hI=>?_)
     ·exact ⟨Xj _,fun j hj=>by omega⟩
     ·obtain ⟨hb,hB⟩:=hI;by_cases hltb:b<m
      ·have hltbI:(b:Int)<m:=by omega
       have hr:=A90 (base:=2) (n:=m) hlta;have hrow:=A6E (cG l l.length) hlta;have hg1:=B9Q hrow;have hrl:((List.range m).map fun b=>cG l l.length a b).length=m:=by simp
       have hrg:((List.range m).map fun b=>cG l l.length a b)[b]? =some (cG l l.length a b):=by simp [hltb]
       have hic:=A5K hrg;by_cases hbig:50<cG l l.length a b
       ·have e:A5W m l=(⟨0,[]⟩,5):=by
         unfold A5W;rw [if_neg hn,if_neg (by omega),if_neg hnob,if_pos ⟨_,A3p (es:=A5D l) (a:=a) (b:=b) (by rw [<-hcl]; omega),by simp only; rw [<-hcl]; exact hbig⟩]
        generalize ((List.range m).map fun b=>cG l l.length a b)=row at*;generalize A6g m (cG l l.length)=T at*;generalize cG l l.length a b=x at*;refine zR (zc @hltbI (zc @hr (zc @hg1 (zc @hic (zc @A12 (zc @hrl (zc @hbig Qv5))))))) Qv5 Qv5 ?_;simp [A0s,A0r,Blk.cells,ty,Tryz.results175,A0o,A0p,toT,A0d,A0b,A0c,A0a,A0j,tG,e,A0f]
       ·generalize ((List.range m).map fun b=>cG l l.length a b)=row at*;generalize hxx:cG l l.length a b=x at*;refine zR (zc @hltbI (zc @hr (zc @hg1 (zc @hic (zc @A12 (zc @hrl (zc @hbig Qv5))))))) Qv5 Qv5 ?_;refine ⟨b+1,Weak.headN (m+2) 93 [0,4,6,10,11] (zWs (zc @A3D (zc @A2c @A2d))),?_,?_⟩
        ·refine ⟨hltb,fun j hj=> ?_⟩;by_cases e:j=b
         ·subst e; omega
         ·exact hB j (by omega)
        ·omega
      ·have eb:b=m:=by omega
       have hnl: ¬((b:Int)<m):=by omega
       refine zR (zc @hnl Qv5) Qv5 Qv5 ?_;refine ⟨a+1,Weak.headN (m+2) 93 [0,4,6,10] (zWs (zc @A3D (zc @A2c @A2d))),?_,?_⟩
       ·refine ⟨hlta,fun i j hi hj=> ?_⟩;by_cases e:i=a
        ·subst e; exact hB j (by omega)
        ·exact hA i j (by omega) hj
       ·omega
    ·have ea:a=m:=by omega
     have hnl: ¬((a:Int)<m):=by omega
     have hno5: ¬ ∃e,e∈A5D l∧50<e.m:=by
      rintro ⟨e,he,hx⟩;have hr:=hbag.r e he;have hc:=A3o hbag.d he;have:=hA e.a.toNat e.b.toNat (by omega) (by omega);rw [hcl,show ((e.a.toNat:Nat):Int)=e.a by omega,show ((e.b.toNat:Nat):Int)=e.b by omega,hc] at this;omega
     have e:A5W m l=(⟨m,A3i (A5D l)⟩,0):=by
      unfold A5W;rw [if_neg hn,if_neg (by omega),if_neg hnob,if_neg hno5]
     have hperm:=A1v (A5D l)
     have hj:=C5l (f:=cellT (A6g m (cG l l.length))) (es:=A3i (A5D l)) (n:=m) (A29 hbag.d) (fun x hx=>by
      have h1:=hbag.r x (hperm.mem_iff.1 hx);have h2:=hbag.m x (hperm.mem_iff.1 hx)
      omega) (fun i j hij hj=>by
      rw [B9R _ (by omega) hj,hcl]
      exact (C0h hperm ((Qz4 neE.symm hperm).2 hbag.d) i j).symm)
     have hJ:=B9P m (A6g m (cG l l.length)) (by omega) (A6b _ _);rw [hj] at hJ;refine B75 [.box [.int .i64 0,.nils],.chain m 1] 6 (.chain 1) m (A6g m (cG l l.length)) (A6b _ _) rfl ?_;simp only [List.set_cons_succ,List.set_cons_zero,List.cons_append,List.nil_append];refine zR (zc @hnl Qv5) (zc hJ Qv5) Qv5 ?_;simp [A0s,A0r,Blk.cells,ty,Tryz.results175,A0o,A0p,toT,A0d,A0b,A0c,A0a,A0j,tG,e]
def isP (a b:Int) (p:Int×Int):Bool:=decide (min p.1 p.2=a∧max p.1 p.2=b)
def C3c (l:List (Int×Int)) (a b:Int): ∀k,k≤l.length->A3I (A5D (l.take k)) a b=((l.take k).countP (isP a b):Int):=by
 intro k
 induction k with
 | zero=>intro _; rfl
 | succ k ih=>
  intro hk;have e0:=Qq (l:=l) (i:=k) (by omega);rw [take_snoc e0,A64,A9i,B5Y,List.countP_append,Qx2,List.countP_nil];have ih:=ih (by omega);by_cases h:a=min l[k].1 l[k].2∧b=max l[k].1 l[k].2
  ·rw [if_pos h,<-h.1,<-h.2,ih,if_pos (by unfold isP; simp [h.1,h.2])]; omega
  ·rw [if_neg h,ih,if_neg (by unfold isP; simp only [decide_eq_true_eq]; omega)]; omega
def C0i {n:Int} {l:List (Int×Int)} (h: ∀p,p∈l->okP n p): ∀k,k≤l.length->BagOk n k (A5D (l.take k)):=by
 intro k
 induction k with
 | zero=>intro _; exact ⟨List.Pairwise.nil,by simp [A5D],by simp [A5D],by simp [A5D]⟩
 | succ k ih=>
  intro hk;have e0:=Qq (l:=l) (i:=k) (by omega);have ho:=h _ (Xw (by omega:k<l.length));rw [take_snoc e0,A64];exact B5G (ih (by omega)) ho.1 ho.2
instance (n:Int) (p:Int×Int):Decidable (okP n p):=by unfold okP; infer_instance
variable {D:Nat->Int}
section
variable {n q:Nat} {T:Nat->List Nat} {M:Nat->Nat->Int}
def tgt (T:Nat->List Nat) (v t:Nat):Nat:=(T v).getD (t%(T v).length) 0
def gone (T:Nat->List Nat) (v w:Nat):Nat->Int
 | 0=>0
 | t+1=>gone T v w t+if tgt T v (t+1)=w then 1 else 0
def B4P (n q:Nat) (T:Nat->List Nat) (a:Nat->Nat) (w:Nat):Int:=sumR (fun v=>if v=q then 0 else gone T v w (a v)) n-if w=q then 0 else (a w:Int)
def upN (a:Nat->Nat) (v x:Nat):Nat:=if x=v then a x+1 else a x
def A48 (n q:Nat) (T:Nat->List Nat) (D:Nat->Int) (a0 a:Nat->Nat) (w:Nat):Int:=D w+B4P n q T a w-B4P n q T a0 w
structure Rot (n q:Nat) (T:Nat->List Nat) (M:Nat->Nat->Int):Prop where
 hq:q<n
 lt: ∀v x,v<n->x∈T v->x<n
 pos: ∀v,v<n->v≠q->0<(T v).length
 cnt: ∀v w,v<n->w<n->v≠w->((T v).count w:Int)=M v w
def C5n {v t:Nat} (h:0<(T v).length):tgt T v t∈T v:=by
 unfold tgt;have:=VZ t h;rw [Qz,Qq this]; exact Xw this
def Rot.tgt_lt (h:Rot n q T M) {v:Nat} (t:Nat) (hv:v<n) (hn:v≠q):tgt T v t<n:=h.lt v _ hv (C5n (h.pos v hv hn))
def A95 {v w s t:Nat} (h:s≤t):gone T v w s≤gone T v w t:=by
 obtain ⟨k,rfl⟩: ∃k,t=s+k:=⟨t-s,by omega⟩;clear h
 induction k with
 | zero=>exact Jj _
 | succ k ih=>rw [<-Wx,gone]; split<;>omega
def C5o (hq:q<n) {a:Nat->Nat} {v:Nat} (hv:v<n) (hn:v≠q) (w:Nat):B4P n q T (upN a v) w=B4P n q T a w+(if tgt T v (a v+1)=w then 1 else 0)-if w=v then 1 else 0:=by
 unfold B4P;have e:sumR (fun x=>if x=q then 0 else gone T x w (upN a v x)) n=sumR (fun x=>(if x=q then 0 else gone T x w (a x))+if x=v then (if tgt T v (a v+1)=w then 1 else 0) else 0) n:=A0g fun x _=>by
  unfold upN;by_cases h:x=v
  ·subst h; simp only [if_pos,if_neg hn]; rw [gone]
  ·simp only [if_neg h]; omega
 rw [e,A02,A0E _ _ hv];unfold upN;by_cases h:w=v
 ·subst h; simp only [if_neg hn,if_pos]; omega
 ·simp only [if_neg h]; omega
def B1K (hq:q<n) {D:Nat->Int} {a0 a:Nat->Nat} {v:Nat} (hv:v<n) (hn:v≠q) (w:Nat):A48 n q T D a0 (upN a v) w=A48 n q T D a0 a w+(if tgt T v (a v+1)=w then 1 else 0)-if w=v then 1 else 0:=by
 unfold A48; rw [C5o hq hv hn]; omega
inductive Leg (n q:Nat) (T:Nat->List Nat) (D:Nat->Int) (a0:Nat->Nat):(Nat->Nat)->Prop
 | base:Leg n q T D a0 a0
 | step {a:Nat->Nat} {v:Nat} (h:Leg n q T D a0 a) (hv:v<n) (hn:v≠q) (hc:1≤A48 n q T D a0 a v):Leg n q T D a0 (upN a v)
def Leg.nonneg {a0 a:Nat->Nat} (hq:q<n) (hD: ∀v,v<n->v≠q->0≤D v) (h:Leg n q T D a0 a): ∀v,v<n->v≠q->0≤A48 n q T D a0 a v:=by
 induction h with
 | base=>intro v hv hn; unfold A48; have:=hD v hv hn; omega
 | @step a v h hv hn hc ih=>
  intro w hw hwn;rw [B1K hq hv hn];have:=ih w hw hwn;by_cases e:w=v
  ·subst e; rw [if_pos rfl]; split<;>omega
  ·rw [if_neg e]; split<;>omega
def Leg.ge {a0 a:Nat->Nat} (h:Leg n q T D a0 a):(∀v,a0 v≤a v)∧ ∀v,(n≤v∨v=q)->a v=a0 v:=by
 induction h with
 | base=>exact ⟨fun _=>Qk _,fun _ _=>rfl⟩
 | step h hv hn hc ih=>
  refine ⟨fun w=> ?_,fun w hw=> ?_⟩
  ·have:=ih.1 w; unfold upN; split<;>omega
  ·unfold upN; rw [if_neg (by rintro rfl; rcases hw with q | q<;>omega)]; exact ih.2 w hw
def A96 (n q:Nat) (T:Nat->List Nat) (a:Nat->Nat):Prop:= ∀S:Nat->Bool,S q=false->(∃v,v<n∧S v=true)-> ∃v,v<n∧S v=true∧S (tgt T v (a v))=false
def Leg.closed {a0 a:Nat->Nat} (hR:Rot n q T M) (hD: ∀v,v<n->v≠q->0≤D v) (h0:A96 n q T a0) (h:Leg n q T D a0 a):
  ∀S:Nat->Bool,S q=false->(∃v,v<n∧S v=true)->(∀v,v<n->S v=true->S (tgt T v (a v))=true)-> ∃v,v<n∧S v=true∧1≤A48 n q T D a0 a v:=by
 induction h with
 | base=>
  intro S hS hx hc;obtain ⟨v,hv,h1,h2⟩:=h0 S hS hx;rw [hc v hv h1] at h2; cases h2
 | @step a v h hv hn hc ih=>
  intro S hS hx hcl;have hq:=hR.hq;by_cases hSv:S v=true
  ·have hw:=hcl v hv hSv;have e:upN a v v=a v+1:=by unfold upN; rw [if_pos rfl]
   rw [e] at hw;have hwn:tgt T v (a v+1)≠q:=fun e=>by rw [e,hS] at hw; cases hw
   refine ⟨_,hR.tgt_lt _ hv hn,hw,?_⟩;rw [B1K hq hv hn,if_pos rfl];have:=h.nonneg hq hD _ (hR.tgt_lt (a v+1) hv hn) hwn;split
   ·rename_i e; rw [e] at this ⊢; omega
   ·omega
  ·obtain ⟨x,hx1,hx2,hx3⟩:=ih S hS hx fun x hx1 hx2=>by
    have:=hcl x hx1 hx2;have e:upN a v x=a x:=by unfold upN; rw [if_neg (by rintro rfl; exact hSv hx2)]
    rwa [e] at this
   refine ⟨x,hx1,hx2,?_⟩;rw [B1K hq hv hn,if_neg (show ¬x=v by rintro rfl; exact hSv hx2)];split<;>omega
def Leg.acyc {a0 a:Nat->Nat} (hR:Rot n q T M) (hD: ∀v,v<n->v≠q->0≤D v) (h0:A96 n q T a0) (h:Leg n q T D a0 a) (hz: ∀v,v<n->v≠q->A48 n q T D a0 a v≤0):A96 n q T a:=by
 intro S hS hx;refine QJ fun hno=> ?_;obtain ⟨v,hv,h1,h2⟩:=h.closed hR hD h0 S hS hx fun v hv hSv=>by
  refine QJ fun hf=>hno ⟨v,hv,hSv,by simpa using hf⟩
 have:=hz v hv (by rintro rfl; rw [hS] at h1; cases h1);omega
def C0j (T:Nat->List Nat) (S:Nat->Bool) (v:Nat):Nat->Int
 | 0=>0
 | t+1=>C0j T S v t+if S (tgt T v (t+1))=true then 1 else 0
def B3o (hR:Rot n q T M) (S:Nat->Bool) {v:Nat} (hv:v<n) (hn:v≠q): ∀t:Nat,sumR (fun w=>if S w=true then gone T v w t else 0) n=C0j T S v t
 | 0=>A0H fun w _=>by split<;>rfl
 | t+1=>by
  rw [C0j,<-B3o hR S hv hn t];have e:sumR (fun w=>if S w=true then gone T v w (t+1) else 0) n=sumR (fun w=>(if S w=true then gone T v w t else 0)+if w=tgt T v (t+1) then (if S (tgt T v (t+1))=true then 1 else 0) else 0) n:=A0g fun w _=>by
   rw [gone];by_cases h:w=tgt T v (t+1)
   ·subst h; simp only [if_pos]; split<;>simp_all
   ·rw [if_neg h,if_neg (Ne.symm h)]; simp
  rw [e,A02,A0E _ _ (hR.tgt_lt _ hv hn)]
end
def B3p {α:Type} {P:List α->Prop} (h0:P []) (h1: ∀l x,P l->P (l++[x])) (l:List α):P l:=by
 have: ∀r:List α,P r.reverse:=fun r=>by
  induction r with
  | nil=>exact h0
  | cons x r ih=>rw [List.reverse_cons]; exact h1 _ _ ih
 have:=this l.reverse; rwa [List.reverse_reverse] at this
section
variable {n q:Nat} {T:Nat->List Nat} {M:Nat->Nat->Int}
def B5Z (l:List Nat) (w:Nat):Nat->Int
 | 0=>0
 | t+1=>B5Z l w t+if l.getD (t%l.length) 0=w then 1 else 0
def B7A (w:Nat): ∀(l r:List Nat),(∀t,t<l.length->r.getD (t%r.length) 0=l.getD t 0)->B5Z r w l.length=(l.count w:Nat):=by
 intro l;refine B3p (P:=fun l=> ∀r:List Nat,(∀t,t<l.length->r.getD (t%r.length) 0=l.getD t 0)->B5Z r w l.length=(l.count w:Nat)) ?_ ?_ l
 ·intro r _; rfl
 ·intro l x ih r h;have h1:=ih r fun t ht=>by
   have:=h t (by simp; omega);rw [this,Qz,Qw ht,<-Qz]
  have h2:=h l.length (by simp);rw [Qz (l:=l++[x]),QW (Qk _),Jv] at h2;simp only [List.getElem?_cons_zero,Option.getD_some] at h2;rw [Xv,List.length_singleton,B5Z,h1,h2,List.count_append,List.count_singleton];by_cases e:x=w
  ·subst e; simp
  ·simp [e]
def B3q (v w:Nat): ∀t:Nat,gone T v w t=B5Z (T v) w (t+1)-B5Z (T v) w 1
 | 0=>by show (0:Int)=B5Z (T v) w 1-B5Z (T v) w 1; omega
 | t+1=>by
  have e:B5Z (T v) w (t+1+1)=B5Z (T v) w (t+1)+if (T v).getD ((t+1)%(T v).length) 0=w then 1 else 0:=rfl
  rw [gone,B3q v w t,e]; unfold tgt; omega
def C0k {v:Nat} (hp:0<(T v).length) (w t:Nat):gone T v w (t+(T v).length)=gone T v w t+(T v).count w:=by
 induction t with
 | zero=>
  obtain ⟨m,hm⟩: ∃m,(T v).length=m+1:=⟨(T v).length-1,by omega⟩;rw [XX,B3q,B5Z,B7A w (T v) (T v) fun t ht=>by rw [Vw ht]];rw [gone];have e1:B5Z (T v) w 1=if (T v).getD 0 0=w then 1 else 0:=by rw [B5Z,B5Z]; simp
  rw [e1,Nat.mod_self]; omega
 | succ t ih=>
  have:t+1+(T v).length=(t+(T v).length)+1:=by omega
  rw [this,gone,gone,ih];have e:tgt T v (t+(T v).length+1)=tgt T v (t+1):=by
   unfold tgt; rw [show t+(T v).length+1=t+1+(T v).length by omega,Nat.add_mod_right]
  rw [e]; omega
def A75 {v:Nat} (hp:0<(T v).length) (w t:Nat): ∀k:Nat,gone T v w (t+(T v).length*k)=gone T v w t+k*(T v).count w
 | 0=>by simp
 | k+1=>by
  rw [Nat.mul_succ,<-Wx,C0k hp,A75 hp w t k,Int.natCast_add,Int.add_mul]; omega
def C0l {l:List Nat} (h: ∀x,x∈l->x<n):sumR (fun w=>(l.count w:Int)) n=l.length:=by
 induction l with
 | nil=>exact A0H fun _ _=>rfl
 | cons x l ih=>
  have e:sumR (fun w=>((x::l).count w:Int)) n=sumR (fun w=>(l.count w:Int)+if w=x then 1 else 0) n:=A0g fun w _=>by
   rw [List.count_cons];by_cases q:w=x
   ·subst q; simp
   ·rw [if_neg q,if_neg (by simpa using Ne.symm q)]; simp
  rw [e,A02,A0E _ _ (h x (by simp)),ih fun y hy=>h y (by simp [hy])]; simp
def B3r (hR:Rot n q T M) (hM:Mult n M) {a b:Nat->Nat} {k:Nat->Nat} (hk:k q=0) (hb: ∀v,v<n->v≠q->b v=a v+(T v).length*k v) {w:Nat} (hw:w<n) (hn:w≠q):B4P n q T b w=B4P n q T a w-lap n M (fun v=>(k v:Int)) w:=by
 unfold B4P;rw [if_neg hn,if_neg hn,hb w hw hn];have e1:sumR (fun v=>if v=q then 0 else gone T v w (b v)) n=sumR (fun v=>(if v=q then 0 else gone T v w (a v))+(k v:Int)*(T v).count w) n:=A0g fun v hv=>by
  by_cases h:v=q
  ·subst h; rw [if_pos rfl,if_pos rfl,hk]; simp
  ·rw [if_neg h,if_neg h,hb v hv h,A75 (hR.pos v hv h)]
 have e2:sumR (fun v=>(k v:Int)*(T v).count w) n=sumR (fun v=>(k v:Int)*M w v+if v=w then (k w:Int)*(T w).count w else 0) n:=A0g fun v hv=>by
  by_cases h:v=w
  ·subst h; rw [if_pos rfl,hM.dia]; omega
  ·rw [if_neg h,hR.cnt v w hv hw h,hM.sym v w]; omega
 have e3:((T w).length:Int)=sumR (M w) n+(T w).count w:=by
  rw [<-C0l (n:=n) fun x hx=>hR.lt w x hw hx];have:sumR (fun x=>((T w).count x:Int)) n=sumR (fun x=>M w x+if x=w then ((T w).count w:Int) else 0) n:=A0g fun x hx=>by
   by_cases h:x=w
   ·subst h; rw [if_pos rfl,hM.dia]; omega
   ·rw [if_neg h,hR.cnt w x hw hx (Ne.symm h)]; omega
  rw [this,A02,A0E _ _ hw]
 have e4:lap n M (fun v=>(k v:Int)) w=(k w:Int)*sumR (M w) n-sumR (fun v=>(k v:Int)*M w v) n:=by
  unfold lap;rw [<-A4s,<-A1M];exact A0g fun u _=>by rw [Int.mul_sub,Qv0 (M w u),Qv0 (M w u)]
 rw [e1,A02,e2,A02,A0E _ _ hw,e4,Int.natCast_add,Int.natCast_mul,e3,Int.add_mul,Qv0 (sumR (M w) n),Qv0 ((T w).count w:Int)];omega
def B4Q {a b:Nat->Nat} (h: ∀v,v<n->v≠q->a v%(T v).length=b v%(T v).length) (ha:A96 n q T a):A96 n q T b:=fun S hS hx=>by
 obtain ⟨v,hv,h1,h2⟩:=ha S hS hx;refine ⟨v,hv,h1,?_⟩;unfold tgt at h2 ⊢;rwa [<-h v hv (by rintro rfl; rw [hS] at h1; cases h1)]
def B1L (n q:Nat) (T:Nat->List Nat) (D:Nat->Int) (R R':Nat->Nat):Prop:= ∃a,Leg n q T D R a∧(∀v,v<n->v≠q->A48 n q T D R a v=0)∧ ∀v,v<n->v≠q->a v%(T v).length=R' v%(T v).length
def B1L.acyc {R R':Nat->Nat} (hR:Rot n q T M) (hD: ∀v,v<n->v≠q->0≤D v) (h0:A96 n q T R) (h:B1L n q T D R R'):A96 n q T R':=by
 obtain ⟨a,h1,h2,h3⟩:=h;exact B4Q h3 (h1.acyc hR hD h0 fun v hv hn=>by rw [h2 v hv hn]; exact Jj _)
def C5p (hR:Rot n q T M) (hM:Mult n M) {a b:Nat->Nat} (h: ∀v,v<n->v≠q->a v%(T v).length=b v%(T v).length): ∃k:Nat->Int,k q=0∧ ∀w,w<n->w≠q->B4P n q T b w=B4P n q T a w-lap n M k w:=by
 obtain ⟨i,hi⟩: ∃i:Nat->Nat,∀v,i v=if v=q then 0 else a v / (T v).length:=⟨_,fun _=>rfl⟩
 obtain ⟨j,hj⟩: ∃j:Nat->Nat,∀v,j v=if v=q then 0 else b v / (T v).length:=⟨_,fun _=>rfl⟩
 obtain ⟨c,hc⟩: ∃c:Nat->Nat,∀v,c v=a v%(T v).length:=⟨_,fun _=>rfl⟩;have e1:=fun w (hw:w<n) (hn:w≠q)=>B3r hR hM (a:=c) (b:=a) (k:=i) (by rw [hi,if_pos rfl]) (fun v _ hq=>by rw [hc,hi,if_neg hq,Nat.mod_add_div]) hw hn;have e2:=fun w (hw:w<n) (hn:w≠q)=>B3r hR hM (a:=c) (b:=b) (k:=j) (by rw [hj,if_pos rfl]) (fun v hv hq=>by rw [hc,hj,if_neg hq,h v hv hq,Nat.mod_add_div]) hw hn;refine ⟨fun v=>(j v:Int)-i v,by dsimp only; rw [hi,hj,if_pos rfl,if_pos rfl]; rfl,fun w hw hn=> ?_⟩;have e3:lap n M (fun v=>(j v:Int)-i v) w=lap n M (fun v=>(j v:Int)) w-lap n M (fun v=>(i v:Int)) w:=by
  have:=A7z (n:=n) (M:=M) (fun v=>(j v:Int)-i v) (fun v=>(i v:Int)) w;have e:(fun u=>(j u:Int)-i u+i u)=fun v=>(j v:Int):=by funext u; omega
  rw [e] at this; omega
 rw [e1 w hw hn,e2 w hw hn,e3]; omega
end
def B4R {P:Nat->Prop} {m:Nat} (h: ¬ ∀j,j<m->P j): ∃j,j<m∧ ¬P j:=
 QJ fun hx=>h fun j hj=>QJ fun hp=>hx ⟨j,hj,hp⟩
section
variable {n q:Nat} {T:Nat->List Nat} {M:Nat->Nat->Int}
def B3s (v:Nat): ∀t:Nat,C0j T (fun _=>true) v t=t
 | 0=>rfl
 | t+1=>by rw [C0j,B3s v t,if_pos rfl]; omega
def B6a (hR:Rot n q T M) (a:Nat->Nat):sumR (B4P n q T a) n=0:=by
 have e:sumR (B4P n q T a) n=sumR (fun w=>sumR (fun v=>if v=q then 0 else gone T v w (a v)) n) n-sumR (fun w=>if w=q then 0 else (a w:Int)) n:=A1M _ _ n;rw [e,A3m];have e2:sumR (fun v=>sumR (fun w=>if v=q then 0 else gone T v w (a v)) n) n=sumR (fun w=>if w=q then 0 else (a w:Int)) n:=A0g fun v hv=>by
  by_cases h:v=q
  ·rw [if_pos h]; exact A0H fun w _=>if_pos h
  ·rw [if_neg h,<-B3s (T:=T) v (a v),<-B3o hR _ hv h];exact A0g fun w _=>by rw [if_neg h,if_pos rfl]
 rw [e2]; omega
def C3d (n q:Nat) (T:Nat->List Nat) (a0 a:Nat->Nat) (w:Nat):Int:=sumR (fun v=>if v=q then 0 else gone T v w (a v)-gone T v w (a0 v)) n
def B3t {D:Nat->Int} {a0 a:Nat->Nat} (w:Nat):A48 n q T D a0 a w=D w+C3d n q T a0 a w-if w=q then 0 else ((a w:Int)-a0 w):=by
 have e:C3d n q T a0 a w=sumR (fun v=>if v=q then 0 else gone T v w (a v)) n-sumR (fun v=>if v=q then 0 else gone T v w (a0 v)) n:=by
  unfold C3d; rw [<-A1M]; exact A0g fun v _=>by split<;>omega
 unfold A48 B4P;rw [e]; split<;>omega
def B6b (hq:q<n) (f:Nat->Int):sumR f n=sumR (fun v=>if v=q then 0 else f v) n+f q:=by
 have e:sumR f n=sumR (fun v=>(if v=q then 0 else f v)+if v=q then f q else 0) n:=A0g fun v _=>by
  by_cases h:v=q
  ·subst h; rw [if_pos rfl,if_pos rfl]; omega
  ·rw [if_neg h,if_neg h]; omega
 rw [e,A02,A0E _ _ hq]
def Leg.arr {a0 a:Nat->Nat} (hR:Rot n q T M) (hD: ∀v,v<n->v≠q->0≤D v) (h:Leg n q T D a0 a) {C:Int} (hC:sumR (fun v=>if v=q then 0 else D v) n≤C):
  C3d n q T a0 a q≤C∧ ∀w,w<n->w≠q->C3d n q T a0 a w≤C+((a w:Int)-a0 w):=by
 have hq:=hR.hq;have hnn:=h.nonneg hq hD;have hs:sumR (A48 n q T D a0 a) n=sumR D n:=by
  have e:sumR (A48 n q T D a0 a) n=sumR (fun w=>(D w+B4P n q T a w)-B4P n q T a0 w) n:=rfl;rw [e,A1M,A02,B6a hR,B6a hR]; omega
 rw [B6b hq,B6b hq D] at hs;have h1:=B3t (T:=T) (D:=D) (a0:=a0) (a:=a) (n:=n) (q:=q) q;rw [if_pos rfl] at h1;have hz: ∀w,w<n->0≤(if w=q then 0 else A48 n q T D a0 a w):=fun w hw=>by
  by_cases h:w=q
  ·rw [if_pos h]; exact Jj _
  ·rw [if_neg h]; exact hnn w hw h
 have h2:=A1W hz;have h3:0≤C3d n q T a0 a q:=A1W fun v _=>by
  split
  ·exact Jj _
  ·have:=A95 (T:=T) (v:=v) (w:=q) (h.ge.1 v); omega
 refine ⟨by omega,fun w hw hn=> ?_⟩;have h4:=A1i hz hw;rw [if_neg hn] at h4;have h5:=B3t (T:=T) (D:=D) (a0:=a0) (a:=a) (n:=n) (q:=q) w;rw [if_neg hn] at h5;have:=hD w hw hn;omega
def C0m {u w:Nat} (hp:0<(T u).length) (hc:1≤((T u).count w:Int)) {s t:Nat} (hst:s≤t):(((t-s) / (T u).length:Nat):Int)≤gone T u w t-gone T u w s:=by
 have h1:=A75 hp w s ((t-s) / (T u).length);have h2:s+(T u).length*((t-s) / (T u).length)≤t:=by
  have:=Nat.mul_div_le (t-s) (T u).length; omega
 have h3:=A95 (T:=T) (v:=u) (w:=w) h2;generalize (t-s) / (T u).length=k at*;have h4:0≤(k:Int)*(((T u).count w:Int)-1):=Qj7 (by omega) (by omega);rw [Int.mul_sub,Int.mul_one] at h4;omega
def eB (m C:Nat):Nat->Nat
 | 0=>0
 | j+1=>m*(C+eB m C j+1)
def C5q {m C:Nat} (hm:1≤m): ∀{i j:Nat},i≤j->eB m C i≤eB m C j:=by
 have h1: ∀j,eB m C j≤eB m C (j+1):=fun j=>by
  rw [eB];have:1*(C+eB m C j+1)≤m*(C+eB m C j+1):=YJ _ hm;omega
 intro i j h
 induction h with
 | refl=>exact Qk _
 | step h ih=>exact Yw ih (h1 _)
def Leg.steps {a0 a:Nat->Nat} (hR:Rot n q T M) (hM:Mult n M) (hD: ∀v,v<n->v≠q->0≤D v) (h:Leg n q T D a0 a) {C m:Nat} (hC:sumR (fun v=>if v=q then 0 else D v) n≤C) (hm: ∀v,v<n->(T v).length≤m) (hm1:1≤m)
  {L:List Nat} (l3: ∀v,v∈L->v<n) (l4:L[0]? =some q) (l5: ∀i v,1≤i->L[i]? =some v-> ∃u,u∈L.take i∧1≤M v u) (hnd:L.Nodup): ∀(i v:Nat),L[i]? =some v->a v-a0 v≤eB m C i:=by
 obtain ⟨hq1,hw1⟩:=h.arr hR hD hC;intro i
 induction i using Nat.strongRecOn with
 | ind i ih=>
  intro v hv;cases i with
  | zero=>rw [l4] at hv; injection hv with hv; rw [<-hv,h.ge.2 q (.inr rfl)]; omega
  | succ i=>
   have hvn:=l3 v (Qv hv);have hvq:v≠q:=by
    rintro rfl;have h1:=(Qx.1 hv);have h2:=(Qx.1 l4);obtain ⟨p1,p2⟩:=h1;obtain ⟨p3,p4⟩:=h2;exact (ZJ.1 hnd) 0 (i+1) p3 p1 (by omega) (p4.trans p2.symm)
   obtain ⟨u,hu,hMu⟩:=l5 (i+1) v (by omega) hv;obtain ⟨j,hj⟩:=Zj.1 hu;rw [List.getElem?_take] at hj;split at hj
   ·rename_i hji;have hun:=l3 u (Qv hj);have hne:v≠u:=by rintro rfl; rw [hM.dia] at hMu; omega
    have hcnt:1≤((T v).count u:Int):=by rw [hR.cnt v u hvn hun hne]; exact hMu
    have hpos:=hR.pos v hvn hvq;have hge:=h.ge.1 v;have hrate:=C0m hpos hcnt hge;have harr:gone T v u (a v)-gone T v u (a0 v)≤C3d n q T a0 a u:=by
     have:=A1i (f:=fun v=>if v=q then 0 else gone T v u (a v)-gone T v u (a0 v)) (n:=n) (fun x _=>by
      split
      ·exact Jj _
      ·have:=A95 (T:=T) (v:=x) (w:=u) (h.ge.1 x); omega) hvn
     rwa [if_neg hvq] at this
    generalize hgk:(a v-a0 v) / (T v).length=dk at*;have hle:(dk:Int)≤C+eB m C j:=by
     have hj2:=ih j hji u hj;by_cases e:u=q
     ·have e2:C3d n q T a0 a u=C3d n q T a0 a q:=by rw [e]
      omega
     ·have:=hw1 u hun e;have:=h.ge.1 u;omega
    have hle2:dk≤C+eB m C j:=by omega
    have h1:=Nat.div_add_mod (a v-a0 v) (T v).length;rw [hgk] at h1;have h2:=VZ (a v-a0 v) hpos;have h3:=Nat.mul_le_mul (hm v hvn) hle2;have h4:=Nat.mul_le_mul_left (T v).length hle2;have h5:=C5q (m:=m) (C:=C) hm1 (show j≤i by omega);have h6:=Nat.mul_le_mul_left m h5;have h7:=hm v hvn;rw [eB,Nat.mul_add,Nat.mul_add,Wj];have h8:m*(C+eB m C j)=m*C+m*eB m C j:=Nat.mul_add _ _ _;omega
   ·cases hj
def B3u {L:List Nat} (f:Nat->Int):L.Nodup->(∀v,v∈L->v<n)->sumR (fun v=>if v∈L then f v else 0) n=sumR (fun i=>f (L.getD i 0)) L.length:=by
 refine B3p (P:=fun L=>L.Nodup->(∀v,v∈L->v<n)->sumR (fun v=>if v∈L then f v else 0) n=sumR (fun i=>f (L.getD i 0)) L.length) ?_ ?_ L
 ·intro _ _; exact A0H fun v _=>by simp
 ·intro L x ih hnd hlt;have hx:x∉L:=fun hx=>(YW.1 hnd).2.2 x hx x (by simp) rfl;have h1:=ih (YW.1 hnd).1 fun v hv=>hlt v (by simp [hv]);rw [Xv,List.length_singleton,sumR];have e1:sumR (fun v=>if v∈L++[x] then f v else 0) n=sumR (fun v=>(if v∈L then f v else 0)+if v=x then f x else 0) n:=A0g fun v _=>by
   by_cases e:v=x
   ·subst e; simp [hx]
   ·simp [e]
  have e2:sumR (fun i=>f ((L++[x]).getD i 0)) L.length=sumR (fun i=>f (L.getD i 0)) L.length:=A0g fun i hi=>by
   rw [Qz,Qw hi,<-Qz]
  rw [e1,e2,A02,A0E _ _ (hlt x (by simp)),h1];simp
def eS (m C n:Nat):Nat:=((List.range n).map (eB m C)).sum
def C4d (m C:Nat): ∀n:Nat,(eS m C n:Int)=sumR (fun i=>(eB m C i:Int)) n
 | 0=>rfl
 | n+1=>by
  have:eS m C (n+1)=eS m C n+eB m C n:=by unfold eS; rw [WQ,Jz,List.sum_append]; simp
  rw [this,sumR,<-C4d m C n]; omega
def Leg.bound {a0 a:Nat->Nat} (hR:Rot n q T M) (hM:Mult n M) (hD: ∀v,v<n->v≠q->0≤D v) (h:Leg n q T D a0 a) {C m:Nat} (hC:sumR (fun v=>if v=q then 0 else D v) n≤C) (hm: ∀v,v<n->(T v).length≤m) (hm1:1≤m):sumR (fun v=>(a v:Int)-a0 v) n≤eS m C n:=by
 obtain ⟨L,l1,l2,l3,l4,l5⟩:=A71 hM hR.hq n (by have:=hR.hq; omega) (Qk _);have hst:=h.steps hR hM hD hC hm hm1 l3 l4 l5 l2;have hall: ∀v,v<n->v∈L:=fun v hv=>by
  refine QJ fun hn=> ?_;have:=A62 (n:=n) (seen:=L++[v]) (YW.2 ⟨l2,by simp,fun a ha b hb=>by simp at hb; subst hb; rintro rfl; exact hn ha⟩) fun u hu=>by
   rcases XZ.1 hu with hu | hu
   ·exact l3 u hu
   ·simp at hu; omega
  simp at this; omega
 have e1:sumR (fun v=>(a v:Int)-a0 v) n=sumR (fun v=>if v∈L then ((a v:Int)-a0 v) else 0) n:=A0g fun v hv=>by rw [if_pos (hall v hv)]
 rw [e1,B3u (n:=n) (fun v=>(a v:Int)-a0 v) l2 l3,l1,C4d];refine A3J fun i hi=> ?_;have hil:i<L.length:=by omega
 have:=hst i (L.getD i 0) (by rw [Qz,Qq hil]; rfl);have:=h.ge.1 (L.getD i 0);omega
def C0n {a0 a:Nat->Nat} {v:Nat} (hv:v<n):sumR (fun x=>(upN a v x:Int)-a0 x) n=sumR (fun x=>(a x:Int)-a0 x) n+1:=by
 have e:sumR (fun x=>(upN a v x:Int)-a0 x) n=sumR (fun x=>((a x:Int)-a0 x)+if x=v then 1 else 0) n:=A0g fun x _=>by
  unfold upN; split<;>omega
 rw [e,A02,A0E _ _ hv]
def B4S (hR:Rot n q T M) (hM:Mult n M) {D:Nat->Int} {R:Nat->Nat} (hD: ∀v,v<n->v≠q->0≤D v): ∃R',B1L n q T D R R':=by
 obtain ⟨m,hm⟩: ∃m:Nat,∀v,v<n->(T v).length≤m:=⟨(sumR (fun v=>((T v).length:Int)) n).toNat,fun v hv=>by
  have:=A1i (f:=fun v=>((T v).length:Int)) (n:=n) (fun _ _=>by omega) hv
  omega⟩
 have key: ∀(k:Nat) (a:Nat->Nat),Leg n q T D R a->(eS (m+1) (sumR (fun v=>if v=q then 0 else D v) n).toNat n:Int)-sumR (fun v=>(a v:Int)-R v) n≤k-> ∃b,Leg n q T D R b∧ ∀v,v<n->v≠q->A48 n q T D R b v=0:=by
  intro k
  induction k with
  | zero=>
   intro a ha hk;refine ⟨a,ha,fun v hv hn=> ?_⟩;refine QJ fun hc=> ?_;have h1:=ha.nonneg hR.hq hD v hv hn;have h2:=(Leg.step ha hv hn (by omega)).bound hR hM hD (C:=(sumR (fun v=>if v=q then 0 else D v) n).toNat) (m:=m+1) (by omega) (fun v hv=>by have:=hm v hv; omega) (by omega);rw [C0n hv] at h2;omega
  | succ k ih=>
   intro a ha hk;by_cases hf: ∀v,v<n->(v≠q->A48 n q T D R a v=0)
   ·exact ⟨a,ha,hf⟩
   ·obtain ⟨v,hv,hx⟩:=B4R hf;have hvn:v≠q:=fun e=>hx fun h=>absurd e h;have hc: ¬A48 n q T D R a v=0:=fun e=>hx fun _=>e;have h1:=ha.nonneg hR.hq hD v hv hvn;exact ih _ (Leg.step ha hv hvn (by omega)) (by rw [C0n hv]; omega)
 obtain ⟨b,b1,b2⟩:=key _ R .base (Int.self_le_toNat _);exact ⟨b,b,b1,b2,fun _ _ _=>rfl⟩
end
def _root_.Go.Sp.Weak.untok {h:Nat} {tm:List AVal} {H:List Blk} (t:Nat) {rows:List (List Tree)} {tok:Tok} (ht:tm[t]? =some (.c (.slice rows tok))):Weak h ⟨tm,H⟩ ⟨tm.set t (.c (.slice rows .none)),H⟩:=by
 intro ι σ a w hr;exact ⟨ι,⟨A5x ht (fun v hv=>⟨hv.1,trivial⟩) hr.tmps,hr.heap⟩,rfl,rfl⟩
section
variable {n q:Nat} {T:Nat->List Nat} {M:Nat->Nat->Int}
def B1L.congr {R R' S:Nat->Nat} (h:B1L n q T D R R') (hs: ∀v,v<n->v≠q->R' v%(T v).length=S v%(T v).length):B1L n q T D R S:=by
 obtain ⟨a,h1,h2,h3⟩:=h;exact ⟨a,h1,h2,fun v hv hn=>(h3 v hv hn).trans (hs v hv hn)⟩
def C3e (hR:Rot n q T M) (hM:Mult n M) {D E:Nat->Int} {R R':Nat->Nat} (h0:A96 n q T R) (hD:A1j n M q D) (hE:A1j n M q E) (h:B1L n q T D R R') (h':B1L n q T E R R'): ∀v,v<n->v≠q->D v=E v:=by
 obtain ⟨a,a1,a2,a3⟩:=h;obtain ⟨b,b1,b2,b3⟩:=h';obtain ⟨k,hk,hk2⟩:=C5p hR hM (a:=a) (b:=b) fun v hv hn=>(a3 v hv hn).trans (b3 v hv hn).symm;have heq: ∀v,v<n->v≠q->E v=D v-lap n M (fun v=> -k v) v:=fun v hv hn=>by
  have e4:lap n M (fun v=> -k v) v= -lap n M k v:=B4D k v;have h1:=a2 v hv hn;have h2:=b2 v hv hn;have h3:=hk2 v hv hn;unfold A48 at h1 h2;rw [e4]; omega
 have hq:=hR.hq;have hr:A1j n M q fun v=>D v-lap n M (fun v=> -k v) v:=hE.congr fun v hv hn=>heq v hv hn;have:=B72 hM hq hD hr ⟨fun v=> -k v,fun v hv=>rfl⟩;intro v hv hn;rw [heq v hv hn]; exact this v hv
end
end Go.Proofs.YtdbdfkohpjefjaaGreat
