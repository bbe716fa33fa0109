/- A part of the proof. -/
import Derived.Test.YtdbdfkohpjefjaaGreatPart10
import Derived.Test.YtdbdfkohpjefjaaGreatPart12
import Derived.Test.YtdbdfkohpjefjaaGreatPart11
set_option linter.all false
set_option maxHeartbeats 4000000
set_option maxRecDepth 100000
namespace Go.Proofs.YtdbdfkohpjefjaaGreat
open Go.Sp
def connB (g:G):Bool:=decide (A2p g.es g.n.toNat g.n.toNat=1)
def A0t (g:G):Int:=if checkG g≠0 then checkG g else if connB g=true then 0 else 13
def ribE (r:R):Int:=if A0t r.g≠0 then A0t r.g else if (r.ar.length:Int)≠r.n then 8 else A5A (endsL r.es) (2*(endsL r.es).length) 0 r.ar
structure ROk (r:R):Prop where
 c:checkG r.g=0
 conn:connB r.g=true
 len:(r.ar.length:Int)=r.n
 l: ∀(i:Nat) l,r.ar[i]? =some l->LOk l (ownL (endsL r.es) (i:Int) (2*(endsL r.es).length))
def B5A {r:R} (h:ribE r=0):ROk r:=by
 unfold ribE A0t at h;by_cases h1:checkG r.g≠0
 ·simp only [if_pos h1] at h; omega
 ·rw [if_neg h1] at h;by_cases h2:connB r.g=true
  ·rw [if_pos h2] at h;by_cases h3:(r.ar.length:Int)≠r.n
   ·rw [if_neg (by omega),if_pos h3] at h; omega
   ·rw [if_neg (by omega),if_neg h3] at h;exact ⟨by omega,h2,by omega,fun i l hl=>by have:=B02 h i l hl; rwa [XX] at this⟩
  ·rw [if_neg h2] at h; omega
section
variable {r:R}
def A1J (hc:checkG r.g=0) {h:Nat} (hh:h<2*(endsL r.es).length):0≤atL (endsL r.es) h∧atL (endsL r.es) h<r.n:=by
 have hm:h / 2<(endsL r.es).length:=by omega
 have he:=ends_range hc (Xk (l:=endsL r.g.es) hm);unfold atL;rw [Qz,Qq hm];simp only [Option.getD_some];split
 ·exact he.1
 ·exact he.2
def ROk.row (hr:ROk r) {h:Nat} (hh:h<2*(endsL r.es).length): ∃l,r.ar[(atL (endsL r.es) h).toNat]? =some l∧r.ar.getD (atL (endsL r.es) h).toNat []=l∧LOk l (ownL (endsL r.es) (atL (endsL r.es) h) (2*(endsL r.es).length))∧(h:Int)∈l:=by
 have ha:=A1J hr.c hh;have hlt:(atL (endsL r.es) h).toNat<r.ar.length:=by have:=hr.len; omega
 have e:=Qq hlt;have hl:=hr.l _ _ e;rw [show (((atL (endsL r.es) h).toNat:Nat):Int)=atL (endsL r.es) h by omega] at hl;refine ⟨_,e,by rw [Qz,e]; rfl,hl,hl.sup _ (A1K.2 ⟨by omega,by omega,by simp⟩)⟩
def ROk.next (hr:ROk r) {h:Nat} (hh:h<2*(endsL r.es).length):0≤nextR (endsL r.es) r.ar h∧nextR (endsL r.es) r.ar h<(2*(endsL r.es).length:Nat)∧atL (endsL r.es) (nextR (endsL r.es) r.ar h).toNat=atL (endsL r.es) h:=by
 obtain ⟨l,h1,h2,h3,h4⟩:=hr.row hh;unfold nextR;rw [h2];exact A1K.1 (h3.sub _ (B8S h4))
def ROk.next_inj (hr:ROk r) {h k:Nat} (hh:h<2*(endsL r.es).length) (hk:k<2*(endsL r.es).length) (e:nextR (endsL r.es) r.ar h=nextR (endsL r.es) r.ar k):h=k:=by
 have a1:=(hr.next hh).2.2;have a2:=(hr.next hk).2.2;rw [e] at a1;have a3:=a1.symm.trans a2;obtain ⟨l,h1,h2,h3,h4⟩:=hr.row hh;obtain ⟨l',h1',h2',h3',h4'⟩:=hr.row hk;rw [a3,h1'] at h1;cases h1;unfold nextR at e;rw [h2,h2'] at e;have:=B8T h3.nd h4 h4' e;omega
end
def B13 {f:Nat->Int} {a b:Nat} {x:E}:x∈B12 f a b↔ ∃j,j<b∧a≤j∧0<f j∧x=⟨a,j,f j⟩:=by
 simp only [B12,List.mem_filterMap,Xy];constructor
 ·rintro ⟨j,hj,h⟩;split at h
  ·rename_i hc; cases h; exact ⟨j,hj,hc.1,hc.2,rfl⟩
  ·cases h
 ·rintro ⟨j,hj,h1,h2,rfl⟩;exact ⟨j,hj,by rw [if_pos ⟨h1,h2⟩]⟩
def B2U {f:Nat->Nat->Int} {n a:Nat} {x:E}:x∈A3w f n a↔ ∃i j,i<a∧j<n∧i≤j∧0<f i j∧x=⟨i,j,f i j⟩:=by
 simp only [A3w,Jq,Xy,B13];constructor
 ·rintro ⟨i,hi,j,h⟩; exact ⟨i,j,hi,h⟩
 ·rintro ⟨i,j,hi,h⟩; exact ⟨i,hi,j,h⟩
def B44 (f:Nat->Int) (a b:Nat):(B12 f a b).Pairwise ltE:=by
 induction b with
 | zero=>exact List.Pairwise.nil
 | succ b ih=>
  rw [B2R,Qx4];refine ⟨ih,by split<;>simp,fun x hx y hy=> ?_⟩;obtain ⟨j,hj,h1,h2,rfl⟩:=B13.1 hx;split at hy
  ·obtain rfl:=Zq.1 hy;exact .inr ⟨rfl,ZJ.2 hj⟩
  ·simp at hy
def A7M (f:Nat->Nat->Int) (n a:Nat):(A3w f n a).Pairwise ltE:=by
 induction a with
 | zero=>exact List.Pairwise.nil
 | succ a ih=>
  rw [A3Y,Qx4];refine ⟨ih,B44 _ _ _,fun x hx y hy=> ?_⟩;obtain ⟨i,j,hi,hj,h1,h2,rfl⟩:=B2U.1 hx;obtain ⟨j',_,_,_,rfl⟩:=B13.1 hy;exact .inl (ZJ.2 hi)
def B5B {l:List E} (h:l.Pairwise ltE):l.Nodup:=h.imp fun {a b} h e=>by subst e; unfold ltE at h; omega
variable {es:List E}
def A3r (h:distinctE es) {x:E} (hx:x∈es):A1H es x.a x.b=x.m:=by
 induction es with
 | nil=>cases hx
 | cons y ys ih=>
  have hp:=Wz.1 h;simp only [A1H];rcases Qw.1 hx with rfl | hx
  ·rw [if_pos ⟨rfl,rfl⟩]
  ·have:=hp.1 x hx;unfold neE at this;rw [if_neg (by omega),ih hp.2 hx]
def A3s {es:List E} {a b:Int} (h:A1H es a b≠0):(⟨a,b,A1H es a b⟩:E)∈es:=by
 induction es with
 | nil=>simp [A1H] at h
 | cons y ys ih=>
  simp only [A1H] at h ⊢;by_cases hy:y.a=a∧y.b=b
  ·rw [if_pos hy];obtain ⟨ya,yb,ym⟩:=y;simp only at hy;obtain ⟨rfl,rfl⟩:=hy;simp
  ·rw [if_neg hy] at h ⊢;exact YW _ (ih h)
def C20 {n:Nat} (hs:es.Pairwise ltE) (hr: ∀e,e∈es->0≤e.a∧e.a≤e.b∧e.b<n∧1≤e.m):A3w (fun i j=>A1H es i j) n n=es:=by
 refine A4m (A7M _ _ _) hs ((WJ (B5B (A7M _ _ _)) (B5B hs)).2 fun x=> ?_);rw [B2U];constructor
 ·rintro ⟨i,j,hi,hj,hij,hp,rfl⟩;exact A3s (by omega)
 ·intro hx;have:=hr x hx;have hc:=A3r (A5Y hs) hx;refine ⟨x.a.toNat,x.b.toNat,by omega,by omega,by omega,?_,?_⟩
  ·rw [show ((x.a.toNat:Nat):Int)=x.a by omega,show ((x.b.toNat:Nat):Int)=x.b by omega,hc]; omega
  ·rw [show ((x.a.toNat:Nat):Int)=x.a by omega,show ((x.b.toNat:Nat):Int)=x.b by omega,hc]
def C4D {f:Nat->Nat->Int} {es:List E} {n:Nat} (hs:es.Pairwise ltE) (hr: ∀e,e∈es->0≤e.a∧e.a≤e.b∧e.b<n∧1≤e.m) (hf: ∀i j:Nat,i≤j->j<n->f i j=A1H es i j):A3w f n n=es:=by
 rw [B41 hf n (QQ _),C20 hs hr]
def B9B {es fs:List E} (hp:es.Perm fs) (hd:distinctE es) (a b:Int):A1H es a b=A1H fs a b:=by
 have hd':distinctE fs:=(Qz0 neE.symm hp).1 hd;by_cases h:A1H es a b=0
 ·by_cases h2:A1H fs a b=0
  ·rw [h,h2]
  ·have:=A3s h2;have:=A3r hd (hp.mem_iff.2 this);exact this
 ·have:=A3s h;exact (A3r hd' (hp.mem_iff.1 this)).symm
def B5C (es:List E) (a b m i j:Int):A1H (A1B es a b m) i j=if i=a∧j=b then m else A1H es i j:=by
 induction es with
 | nil=>
  simp only [A1B,A1H];by_cases h:i=a∧j=b
  ·rw [if_pos h,if_pos ⟨h.1.symm,h.2.symm⟩]
  ·rw [if_neg h,if_neg fun x=>h ⟨x.1.symm,x.2.symm⟩]
 | cons x xs ih=>
  simp only [A1B];by_cases hx:x.a=a∧x.b=b
  ·rw [if_pos hx];simp only [A1H];by_cases h:i=a∧j=b
   ·rw [if_pos h,if_pos ⟨h.1.symm,h.2.symm⟩]
   ·rw [if_neg h,if_neg fun x=>h ⟨x.1.symm,x.2.symm⟩,if_neg fun y=>h ⟨by omega,by omega⟩]
  ·rw [if_neg hx];simp only [A1H,ih];by_cases hy:x.a=i∧x.b=j
   ·rw [if_pos hy,if_pos hy,if_neg fun h=>hx ⟨by omega,by omega⟩]
   ·rw [if_neg hy,if_neg hy]
def cG (l:List (Int×Int)) (k a b:Nat):Int:=A1H (A59 (l.take k)) a b
def C4E {l:List (Int×Int)} {k n a b:Nat} {p:Int×Int} (h:l[k]? =some p) (ha:min p.1 p.2=(a:Int)) (hb:max p.1 p.2=(b:Int)):
  A6f n (fun i j=>if i=a∧j=b then cG l k a b+1 else cG l k i j)=A6f n (cG l (k+1)):=by
 refine B7d fun i j _ _=> ?_;unfold cG;rw [take_snoc h,A63,A9a,B5C,ha,hb];by_cases e:i=a∧j=b
 ·rw [if_pos e,if_pos ⟨by omega,by omega⟩]
 ·rw [if_neg e,if_neg fun x=>e ⟨by omega,by omega⟩]
def okP (n:Int) (p:Int×Int):Prop:=(0≤p.1∧p.1<n)∧(0≤p.2∧p.2<n)
def C21 (n:Int) (l:List (Int×Int)) (hl:l.length<2^40):ACall Tryz.prog 175 [A0n n,A0E l] (.tup [tG (A5T n l).1,A0n (A5T n l).2]):=by
 refine ACall.of_body Tryz.func175 rfl (by kernel_rfl) ?_;simp only [entry,Tryz.ntmps175,A0n,A0E];refine zU ?_;by_cases hn:n<1∨12<n
 ·
  have e:A5T n l=(⟨0,[]⟩,2):=by unfold A5T; rw [if_pos hn]
  by_cases hn1:n<1
  ·
   refine zR (zc @hn1 Qv6) Qv6 Qv6 ?_;simp [A00,A0z,Blk.cells,ty,Tryz.results175,A0v,A0w,toT,A0d,A0b,A0c,A0a,A0n,tG,e,A0f]
  ·have hn2:12<n:=by omega
   refine zR (zc @hn1 (zc @hn2 Qv6)) Qv6 Qv6 ?_;simp [A00,A0z,Blk.cells,ty,Tryz.results175,A0v,A0w,toT,A0d,A0b,A0c,A0a,A0n,tG,e,A0f]
 have hn1: ¬n<1:=by omega
 have hn2: ¬12<n:=by omega
 by_cases hlen:(4096:Int)<(l.length:Int)
 ·
  have e:A5T n l=(⟨0,[]⟩,5):=by unfold A5T; rw [if_neg hn,if_pos (by omega)]
  refine zR (zc @hn1 (zc @hn2 (zc @A08 (zc @hlen Qv6)))) Qv6 Qv6 ?_;simp [A00,A0z,Blk.cells,ty,Tryz.results175,A0v,A0w,toT,A0d,A0b,A0c,A0a,A0n,tG,e,A0f]
 obtain ⟨m,hm⟩: ∃m:Nat,n=m:=⟨n.toNat,by omega⟩;subst hm;have hT1:=B90 m (by omega);have hc0: ∀a b,cG l 0 a b=0:=fun a b=>rfl;rw [C49 m (cG l 0) hc0] at hT1;refine zJ Qv6 (zc @hn1 (zc @hn2 (zc @A08 (zc @hlen Qv6)))) Qv6 (zc hT1 Qv6) Qv6 ?_;refine AWp.loopS (α:=Nat) 93 (fun k=>[(0,.c (.int .i64 (m:Int))),(1,.c (.slice (A1g l) .none)),(4,.c (.ptr 0 0)),(6,.c (.rows (A4s 2 m m) (.chain 1))),(7,.c (.int .i64 (k:Int)))]) (fun k=>.box [.int .i64 0,.nils]:: .chain m 1::(A6f m (cG l k)).map rowB) (fun k=>k≤l.length∧(∀j,j<k-> ∀p,l[j]? =some p->okP m p)∧BagOk m k (A59 (l.take k))) (fun k=>l.length-k) (0) (hk:=Weak.headL (m+2) 93 [0,1,4,6,7] (by (repeat' (first | exact A0m _ | exact A0s _ | exact A0i _ | refine Qv5 ?_ ?_ | refine A0k ?_ ?_ | refine A0l ?_ ?_ | refine A0h ?_ ?_ | exact Qv4 | exact A0W (by omega) | exact A0A | exact A0B | (show _<_; omega) | exact A0r (fun _=>Qv4) | (intro c hc; cases hc; done) | (intro c hc; simp only [Qw,Qv,or_false] at hc; subst hc; first | exact Qv4 | exact A0W (by omega) | exact A0A | exact A0B | (show _<_; omega)) | (intro c hc; simp only [Qw,Qv,or_false] at hc; rcases hc with rfl | rfl<;>first | exact Qv4 | exact A0W (by omega) | exact A0A | exact A0B | (show _<_; omega)))))) (h0:=?_) (round:=fun k hI=>?_)
 ·exact ⟨Xw _,fun j hj=>by omega,List.Pairwise.nil,by simp [A59],by simp [A59],by simp [A59]⟩
 ·obtain ⟨hk,hok,hbag⟩:=hI;by_cases hlt:k<l.length
  ·have e0:=Qq hlt;have e1:=A27 e0;generalize l[k]=p at*;by_cases hp:okP m p
   case neg=>
    have e:A5T m l=(⟨0,[]⟩,2):=by
     unfold A5T;rw [if_neg hn,if_neg (by omega),if_pos ⟨p,Qy e0,hp⟩]
    unfold okP at hp;refine zM Qv6 (zc @e1 (zc @A08 (zc @ZJ Qv6))) Qv6 Qv6 Qv6 (zc (ed fun hp hpc=>?_) (zc (ed fun hp hpc=>?_) (zc (ed fun hp hpc=>?_) (ed fun hp hpc=>?_))))
    all_goals
     first
     | (exfalso; omega)
     | skip
    all_goals
     simp [A00,A0z,Blk.cells,ty,Tryz.results175,A0v,A0w,toT,A0d,A0b,A0c,A0a,A0n,tG,e,A0f]
   obtain ⟨⟨p1,p2⟩,⟨p3,p4⟩⟩:=hp;obtain ⟨a,ha⟩: ∃a:Nat,min p.1 p.2=a:=⟨(min p.1 p.2).toNat,by omega⟩;obtain ⟨b,hb⟩: ∃b:Nat,max p.1 p.2=b:=⟨(max p.1 p.2).toNat,by omega⟩;have ham:a<m:=by omega
   have hbm:b<m:=by omega
   have hst:=C4E (n:=m) e0 ha hb;have hr:=A9v (base:=2) (n:=m) ham;have hrow:=A6F (cG l k) ham;have hg1:=B93 hrow;have hset:=C2t (cG l k) ham hbm (cG l k a b+1);rw [hst] at hset;have hcb:0≤cG l k a b∧cG l k a b≤k:=⟨B4f fun e he=>(hbag.m e he).1,B4e (fun e he=>(hbag.m e he).2) (by omega)⟩;have hrl:((List.range m).map fun b=>cG l k a b).length=m:=by simp
   have hrg:((List.range m).map fun b=>cG l k a b)[b]? =some (cG l k a b):=by simp [hbm]
   have hic:=A64 hrg;have hbag2:BagOk m (k+1) (A59 (l.take (k+1))):=by
    rw [take_snoc e0,A63]; exact B5u hbag ⟨p1,p2⟩ ⟨p3,p4⟩
   have q1: ¬p.1<0:=by omega
   have q2: ¬(m:Int)≤p.1:=by omega
   have q3: ¬p.2<0:=by omega
   have q4: ¬(m:Int)≤p.2:=by omega
   have hTn:A6f m (cG l (k+1))=A6f m (cG l (k+1)):=rfl;generalize ((List.range m).map fun b=>cG l k a b)=row at*;generalize A6f m (cG l k)=T at*;generalize cG l k a b=x at*;refine zR (zc @e1 (zc @A08 (zc @ZJ (zc @q1 (zc @q2 (zc @q3 (zc @q4 (zc @ha (zc @hb (zc @hr (zc @hg1 (zc @hic (zc @A1N (zc @hrl (zc @B0z (zc @C48 (zc @hset Qv6))))))))))))))))) Qv6 Qv6 ?_;refine ⟨k+1,Weak.headN (m+2) 93 [0,1,4,6,7] (by (repeat' (first | exact A0m _ | exact A0s _ | exact A0i _ | refine Qv5 ?_ ?_ | refine A0k ?_ ?_ | refine A0l ?_ ?_ | refine A0h ?_ ?_ | exact Qv4 | exact A0W (by omega) | exact A0A | exact A0B | (show _<_; omega) | exact A0r (fun _=>Qv4) | (intro c hc; cases hc; done) | (intro c hc; simp only [Qw,Qv,or_false] at hc; subst hc; first | exact Qv4 | exact A0W (by omega) | exact A0A | exact A0B | (show _<_; omega)) | (intro c hc; simp only [Qw,Qv,or_false] at hc; rcases hc with rfl | rfl<;>first | exact Qv4 | exact A0W (by omega) | exact A0A | exact A0B | (show _<_; omega))))),?_,?_⟩
   ·refine ⟨hlt,fun j hj q hq=> ?_,hbag2⟩;by_cases hjk:j=k
    ·subst hjk;rw [e0] at hq; cases hq;exact ⟨⟨p1,p2⟩,⟨p3,p4⟩⟩
    ·exact hok j (by omega) q hq
   ·omega
  ·have ek:k=l.length:=by omega
   rw [ek] at hbag hok ⊢;have hcl: ∀a b,cG l l.length a b=A1H (A59 l) a b:=fun a b=>by unfold cG; rw [Zy]
   rw [Zy] at hbag;have hnob: ¬ ∃p,p∈l∧ ¬((0≤p.1∧p.1<(m:Int))∧(0≤p.2∧p.2<(m:Int))):=by
    rintro ⟨p,hp,hx⟩;obtain ⟨j,hj⟩:=Zj.1 hp;exact hx (hok j (Qx.1 hj).1 p hj)
   refine zR (zc @A08 (zc @ZJ Qv6)) Qv6 Qv6 ?_;refine AWp.loopS (α:=Nat) 93 (fun a=>[(0,.c (.int .i64 (m:Int))),(4,.c (.ptr 0 0)),(6,.c (.rows (A4s 2 m m) (.chain 1))),(10,.c (.int .i64 (a:Int)))]) (fun a=>.box [.int .i64 0,.nils]:: .chain m 1::(A6f m (cG l l.length)).map rowB) (fun a=>a≤m∧ ∀i j:Nat,i<a->j<m->cG l l.length i j≤50) (fun a=>m-a) (0) (hk:=Weak.headL (m+2) 93 [0,4,6,10] (by (repeat' (first | exact A0m _ | exact A0s _ | exact A0i _ | refine Qv5 ?_ ?_ | refine A0k ?_ ?_ | refine A0l ?_ ?_ | refine A0h ?_ ?_ | exact Qv4 | exact A0W (by omega) | exact A0A | exact A0B | (show _<_; omega) | exact A0r (fun _=>Qv4) | (intro c hc; cases hc; done) | (intro c hc; simp only [Qw,Qv,or_false] at hc; subst hc; first | exact Qv4 | exact A0W (by omega) | exact A0A | exact A0B | (show _<_; omega)) | (intro c hc; simp only [Qw,Qv,or_false] at hc; rcases hc with rfl | rfl<;>first | exact Qv4 | exact A0W (by omega) | exact A0A | exact A0B | (show _<_; omega)))))) (h0:=?_) (round:=fun a hI=>?_)
   ·exact ⟨Xw _,fun i j hi=>by omega⟩
   ·obtain ⟨ha,hA⟩:=hI;by_cases hlta:a<m
    ·have hltaI:(a:Int)<m:=by omega
     refine zR (zc @hltaI Qv6) Qv6 Qv6 ?_;refine AWp.loopS (α:=Nat) 93 (fun b=>[(0,.c (.int .i64 (m:Int))),(4,.c (.ptr 0 0)),(6,.c (.rows (A4s 2 m m) (.chain 1))),(10,.c (.int .i64 (a:Int))),(11,.c (.int .i64 (b:Int)))]) (fun b=>.box [.int .i64 0,.nils]:: .chain m 1::(A6f m (cG l l.length)).map rowB) (fun b=>b≤m∧ ∀j:Nat,j<b->cG l l.length a j≤50) (fun b=>m-b) (0) (hk:=Weak.headL (m+2) 93 [0,4,6,10,11] (by (repeat' (first | exact A0m _ | exact A0s _ | exact A0i _ | refine Qv5 ?_ ?_ | refine A0k ?_ ?_ | refine A0l ?_ ?_ | refine A0h ?_ ?_ | exact Qv4 | exact A0W (by omega) | exact A0A | exact A0B | (show _<_; omega) | exact A0r (fun _=>Qv4) | (intro c hc; cases hc; done) | (intro c hc; simp only [Qw,Qv,or_false] at hc; subst hc; first | exact Qv4 | exact A0W (by omega) | exact A0A | exact A0B | (show _<_; omega)) | (intro c hc; simp only [Qw,Qv,or_false] at hc; rcases hc with rfl | rfl<;>first | exact Qv4 | exact A0W (by omega) | exact A0A | exact A0B | (show _<_; omega)))))) (h0:=?_) (round:=fun b hI=>?_)
     ·exact ⟨Xw _,fun j hj=>by omega⟩
     ·obtain ⟨hb,hB⟩:=hI;by_cases hltb:b<m
      ·have hltbI:(b:Int)<m:=by omega
       have hr:=A9v (base:=2) (n:=m) hlta;have hrow:=A6F (cG l l.length) hlta;have hg1:=B93 hrow;have hrl:((List.range m).map fun b=>cG l l.length a b).length=m:=by simp
       have hrg:((List.range m).map fun b=>cG l l.length a b)[b]? =some (cG l l.length a b):=by simp [hltb]
       have hic:=A64 hrg;by_cases hbig:50<cG l l.length a b
       ·have e:A5T m l=(⟨0,[]⟩,5):=by
         unfold A5T;rw [if_neg hn,if_neg (by omega),if_neg hnob,if_pos ⟨_,A3s (es:=A59 l) (a:=a) (b:=b) (by rw [<-hcl]; omega),by simp only; rw [<-hcl]; exact hbig⟩]
        generalize ((List.range m).map fun b=>cG l l.length a b)=row at*;generalize A6f m (cG l l.length)=T at*;generalize cG l l.length a b=x at*;refine zR (zc @hltbI (zc @hr (zc @hg1 (zc @hic (zc @A1N (zc @hrl (zc @hbig Qv6))))))) Qv6 Qv6 ?_;simp [A00,A0z,Blk.cells,ty,Tryz.results175,A0v,A0w,toT,A0d,A0b,A0c,A0a,A0n,tG,e,A0f]
       ·generalize ((List.range m).map fun b=>cG l l.length a b)=row at*;generalize hxx:cG l l.length a b=x at*;refine zR (zc @hltbI (zc @hr (zc @hg1 (zc @hic (zc @A1N (zc @hrl (zc @hbig Qv6))))))) Qv6 Qv6 ?_;refine ⟨b+1,Weak.headN (m+2) 93 [0,4,6,10,11] (by (repeat' (first | exact A0m _ | exact A0s _ | exact A0i _ | refine Qv5 ?_ ?_ | refine A0k ?_ ?_ | refine A0l ?_ ?_ | refine A0h ?_ ?_ | exact Qv4 | exact A0W (by omega) | exact A0A | exact A0B | (show _<_; omega) | exact A0r (fun _=>Qv4) | (intro c hc; cases hc; done) | (intro c hc; simp only [Qw,Qv,or_false] at hc; subst hc; first | exact Qv4 | exact A0W (by omega) | exact A0A | exact A0B | (show _<_; omega)) | (intro c hc; simp only [Qw,Qv,or_false] at hc; rcases hc with rfl | rfl<;>first | exact Qv4 | exact A0W (by omega) | exact A0A | exact A0B | (show _<_; omega))))),?_,?_⟩
        ·refine ⟨hltb,fun j hj=> ?_⟩;by_cases e:j=b
         ·subst e; omega
         ·exact hB j (by omega)
        ·omega
      ·have eb:b=m:=by omega
       have hnl: ¬((b:Int)<m):=by omega
       refine zR (zc @hnl Qv6) Qv6 Qv6 ?_;refine ⟨a+1,Weak.headN (m+2) 93 [0,4,6,10] (by (repeat' (first | exact A0m _ | exact A0s _ | exact A0i _ | refine Qv5 ?_ ?_ | refine A0k ?_ ?_ | refine A0l ?_ ?_ | refine A0h ?_ ?_ | exact Qv4 | exact A0W (by omega) | exact A0A | exact A0B | (show _<_; omega) | exact A0r (fun _=>Qv4) | (intro c hc; cases hc; done) | (intro c hc; simp only [Qw,Qv,or_false] at hc; subst hc; first | exact Qv4 | exact A0W (by omega) | exact A0A | exact A0B | (show _<_; omega)) | (intro c hc; simp only [Qw,Qv,or_false] at hc; rcases hc with rfl | rfl<;>first | exact Qv4 | exact A0W (by omega) | exact A0A | exact A0B | (show _<_; omega))))),?_,?_⟩
       ·refine ⟨hlta,fun i j hi hj=> ?_⟩;by_cases e:i=a
        ·subst e; exact hB j (by omega)
        ·exact hA i j (by omega) hj
       ·omega
    ·have ea:a=m:=by omega
     have hnl: ¬((a:Int)<m):=by omega
     have hno5: ¬ ∃e,e∈A59 l∧50<e.m:=by
      rintro ⟨e,he,hx⟩;have hr:=hbag.r e he;have hc:=A3r hbag.d he;have:=hA e.a.toNat e.b.toNat (by omega) (by omega);rw [hcl,show ((e.a.toNat:Nat):Int)=e.a by omega,show ((e.b.toNat:Nat):Int)=e.b by omega,hc] at this;omega
     have e:A5T m l=(⟨m,A3k (A59 l)⟩,0):=by
      unfold A5T;rw [if_neg hn,if_neg (by omega),if_neg hnob,if_neg hno5]
     have hperm:=A10 (A59 l)
     have hj:=C4D (f:=cellT (A6f m (cG l l.length))) (es:=A3k (A59 l)) (n:=m) (A28 hbag.d) (fun x hx=>by
      have h1:=hbag.r x (hperm.mem_iff.1 hx);have h2:=hbag.m x (hperm.mem_iff.1 hx)
      omega) (fun i j hij hj=>by
      rw [B94 _ (by omega) hj,hcl]
      exact (B9B hperm ((Qz0 neE.symm hperm).2 hbag.d) i j).symm)
     have hJ:=B92 m (A6f m (cG l l.length)) (by omega) (A6a _ _);rw [hj] at hJ;refine B7c [.box [.int .i64 0,.nils],.chain m 1] 6 (.chain 1) m (A6f m (cG l l.length)) (A6a _ _) rfl ?_;simp only [List.set_cons_succ,List.set_cons_zero,List.cons_append,List.nil_append];refine zR (zc @hnl Qv6) (zc hJ Qv6) Qv6 ?_;simp [A00,A0z,Blk.cells,ty,Tryz.results175,A0v,A0w,toT,A0d,A0b,A0c,A0a,A0n,tG,e]
def isP (a b:Int) (p:Int×Int):Bool:=decide (min p.1 p.2=a∧max p.1 p.2=b)
def C22 (l:List (Int×Int)) (a b:Int): ∀k,k≤l.length->A1H (A59 (l.take k)) a b=((l.take k).countP (isP a b):Int):=by
 intro k
 induction k with
 | zero=>intro _; rfl
 | succ k ih=>
  intro hk;have e0:=Qq (l:=l) (i:=k) (by omega);rw [take_snoc e0,A63,A9a,B5C,List.countP_append,Qq9,List.countP_nil];have ih:=ih (by omega);by_cases h:a=min l[k].1 l[k].2∧b=max l[k].1 l[k].2
  ·rw [if_pos h,<-h.1,<-h.2,ih,if_pos (by unfold isP; simp [h.1,h.2])]; omega
  ·rw [if_neg h,ih,if_neg (by unfold isP; simp only [decide_eq_true_eq]; omega)]; omega
def B9C {n:Int} {l:List (Int×Int)} (h: ∀p,p∈l->okP n p): ∀k,k≤l.length->BagOk n k (A59 (l.take k)):=by
 intro k
 induction k with
 | zero=>intro _; exact ⟨List.Pairwise.nil,by simp [A59],by simp [A59],by simp [A59]⟩
 | succ k ih=>
  intro hk;have e0:=Qq (l:=l) (i:=k) (by omega);have ho:=h _ (Xk (by omega:k<l.length));rw [take_snoc e0,A63];exact B5u (ih (by omega)) ho.1 ho.2
instance (n:Int) (p:Int×Int):Decidable (okP n p):=by unfold okP; infer_instance
def _root_.Go.Sp.Weak.untok {h:Nat} {tm:List AVal} {H:List Blk} (t:Nat) {rows:List (List Tree)} {tok:Tok} (ht:tm[t]? =some (.c (.slice rows tok))):Weak h ⟨tm,H⟩ ⟨tm.set t (.c (.slice rows .none)),H⟩:=by
 intro ι σ a w hr;exact ⟨ι,⟨A4l ht (fun v hv=>⟨hv.1,trivial⟩) hr.tmps,hr.heap⟩,rfl,rfl⟩
def A0H {n q m:Nat} (hm:4≤m):blkIn m (.roC [.tree (.int .i64 (n:Int)),.tree (.slice (A0f es)),.tree (.int .i64 (q:Int)),.ref 2 1 0 n n,.ref 3 1 0 n n,.tree (.int .i64 0)]):=by
 intro c hc;simp only [Qw,Qv,or_false] at hc;rcases hc with rfl | rfl | rfl | rfl | rfl | rfl<;>first | exact Qv4 | (show _<_; omega)
def A0N {m:Nat} {F:List Bool}:Go.Sp.cellsIn m (bC F):=A0r fun _=>Qv4
def B9D {d:List Int} (h:d≠[]):iC d≠[]:=by cases d<;>simp_all [iC]
def C7o {d:List Bool} (h:d≠[]):bC d≠[]:=by cases d<;>simp_all [bC]
def B2V {l:List (Int×Int)} {n:Nat} (hn:n=2) (k:Nat) (ts:List TVal) (h:(A67 l)[k]? =some ts):ts.length=n:=by
 obtain ⟨p,_,rfl⟩:=A7q h; exact hn.symm
def A7z {v:Int} {x:Int×Int} (h:x∈lnkL es v): ∃e,e∈es∧x.2=e.m∧e.a≠e.b∧((e.a=v∧x.1=e.b)∨(e.b=v∧x.1=e.a)):=by
 unfold lnkL at h;obtain ⟨e,he,h⟩:=List.mem_filterMap.1 h;unfold C1Y at h;split at h
 ·rename_i hc;cases h;refine ⟨e,he,rfl,hc.1,?_⟩;rcases hc.2 with q | q
  ·exact .inl ⟨q,by simp only; omega⟩
  ·exact .inr ⟨q,by simp only; omega⟩
 ·cases h
def C23 (es:List E) (v:Int):(lnkL es v).length≤es.length:=List.length_filterMap_le _ _
def C6t (n q:Nat) (es:List E) (d s:List Int) (R:List Bool):A1y 7 [.box [.int .i64 (n:Int),.slice (A0f es) .none],.ro [.int .i64 (n:Int),.slice (A0f es)],.box (iC d),.box (iC s),.roC [.tree (.int .i64 (n:Int)),.tree (.slice (A0f es)),.tree (.int .i64 (q:Int)),.ref 2 1 0 n n,.ref 3 1 0 n n,.tree (.int .i64 0)],.box (bC R),.box [.ref 5 1 0 n n]]:=by
 have hg:blkIn 7 (.box [.int .i64 (n:Int),.slice (A0f es) .none]):=by intro c hc; simp only [Qw,Qv,or_false] at hc; rcases hc with rfl | rfl<;>exact Qv4
 exact A0l hg (A0l Qv4 (A0l A1k (A0l A1k (A0l (A0H (by decide)) (A0l (A0N (F:=R)) (A0l (A0h (show 5<7 by decide) (A0i _)) (A0s _)))))))
def joinL (p:Int->Bool) (l:List (Int×Int)):Int:=l.foldl (fun a x=>if p x.1=true then a+x.2 else a) 0
def B0F (p:Int->Bool) (l:List (Int×Int)) (x:Int×Int):joinL p (l++[x])=if p x.1=true then joinL p l+x.2 else joinL p l:=by simp [joinL]
def B45 (p:Int->Bool) {l:List (Int×Int)} (h: ∀x,x∈l->0≤x.2∧x.2≤50):0≤joinL p l∧joinL p l≤50*l.length:=by
 revert h;refine A2O (P:=fun l=>(∀x,x∈l->0≤x.2∧x.2≤50)->0≤joinL p l∧joinL p l≤50*l.length) ?_ ?_ l
 ·intro _; exact ⟨WW _,WW _⟩
 ·intro l x ih h;have:=ih fun y hy=>h y (by simp [hy]);have:=h x (by simp);rw [B0F,Xv,List.length_singleton];split<;>omega
def B9E {H:List Blk} (n q:Nat) (es:List E) (v:Int) (h4:H[4]? =some (.roC [.tree (.int .i64 (n:Int)),.tree (.slice (A0f es)),.tree (.int .i64 (q:Int)),.ref 2 1 0 n n,.ref 3 1 0 n n,.tree (.int .i64 0)])):
  ACallH Tryz.prog 185 H [.c (.ptr 4 0),.c (.int .i64 v)] H (ofT (.t (.fn 201 [.rptr [.rptr [.int .i64 n,.slice (A0f es)]],.rptr [.int .i64 v]]))):=by
 refine ACall.hC (C1Z n es v) rfl (fun ι σ w hH j x t u h1 h2 h3=> ?_)
 match j,h1,h2 with
 | 0,h1,h2=>
  simp at h1 h2; subst h1; subst h2;exact C1H hH h4 rfl h3
 | 1,h1,h2=>
  simp at h1 h2; subst h1; subst h2;cases h3; exact .int _ _
 | j+2,h1,h2=>simp at h1
def B7i (n q:Nat) (es:List E) (d s:List Int) (R:List Bool) (hd:d≠[]) (hs:s≠[]) (hR:R≠[]) (hl:es.length<2^20) (hm: ∀e,e∈es->(0≤e.a∧e.a<2^40)∧(0≤e.b∧e.b<2^40)∧0≤e.m∧e.m≤50) (v:Int) (hv:0≤v∧v<2^40) (f:FuncId) (p:Int->Bool)
  (hp: ∀(B:List Blk) u k,(u,k)∈lnkL es v->ACallH Tryz.prog f ([.box [.int .i64 (n:Int),.slice (A0f es) .none],.ro [.int .i64 (n:Int),.slice (A0f es)],.box (iC d),.box (iC s),.roC [.tree (.int .i64 (n:Int)),.tree (.slice (A0f es)),.tree (.int .i64 (q:Int)),.ref 2 1 0 n n,.ref 3 1 0 n n,.tree (.int .i64 0)],.box (bC R),.box [.ref 5 1 0 n n]]++B) [.c (.int .i64 u),.c (.ptr 6 0)] ([.box [.int .i64 (n:Int),.slice (A0f es) .none],.ro [.int .i64 (n:Int),.slice (A0f es)],.box (iC d),.box (iC s),.roC [.tree (.int .i64 (n:Int)),.tree (.slice (A0f es)),.tree (.int .i64 (q:Int)),.ref 2 1 0 n n,.ref 3 1 0 n n,.tree (.int .i64 0)],.box (bC R),.box [.ref 5 1 0 n n]]++B) (.c (.bool (p u)))):
  ACallH Tryz.prog 161 [.box [.int .i64 (n:Int),.slice (A0f es) .none],.ro [.int .i64 (n:Int),.slice (A0f es)],.box (iC d),.box (iC s),.roC [.tree (.int .i64 (n:Int)),.tree (.slice (A0f es)),.tree (.int .i64 (q:Int)),.ref 2 1 0 n n,.ref 3 1 0 n n,.tree (.int .i64 0)],.box (bC R),.box [.ref 5 1 0 n n]] [.c (.ptr 4 0),.c (.int .i64 v),.c (.fn f [.ptr 6 0])] ([.box [.int .i64 (n:Int),.slice (A0f es) .none],.ro [.int .i64 (n:Int),.slice (A0f es)],.box (iC d),.box (iC s),.roC [.tree (.int .i64 (n:Int)),.tree (.slice (A0f es)),.tree (.int .i64 (q:Int)),.ref 2 1 0 n n,.ref 3 1 0 n n,.tree (.int .i64 0)],.box (bC R),.box [.ref 5 1 0 n n]]++[.box [.fn f [.ptr 6 0]],.box [.int .i64 (joinL p (lnkL es v))]]) (.c (.int .i64 (joinL p (lnkL es v)))):=by
 have hI:=B2L n es v (by omega) (fun e he=>by have:=hm e he; exact ⟨this.1,this.2.1⟩) hv;have hlk:=fun H h4=>B9E (H:=H) n q es v h4;have hdn:=B9D hd;have hsn:=B9D hs;have hRn:=C7o hR;have hkb: ∀x,x∈lnkL es v->0≤x.2∧x.2≤50:=fun x hx=>by
  obtain ⟨e,he,h1,_⟩:=A7z hx;have:=hm e he; rw [h1]; exact this.2.2
 have hll:(lnkL es v).length<2^20:=by have:=C23 es v; omega
 simp only [List.cons_append,List.nil_append] at hp ⊢;refine ACallH.of_body Tryz.func161 rfl (by kernel_rfl) ?_;simp only [entry,Tryz.ntmps161,List.length_cons,List.length_nil,Nat.reduceAdd,Nat.reduceSub,List.replicate_succ,List.replicate_zero,List.cons_append,List.nil_append]
 repeat' (first|((first|(refine zT ?_;intro K' hK')|(refine zG ?_ ?_<;>(try refine zH ?_)<;>intro hguard<;>(try exact zX)<;>try intro K' hK'))<;>((try simp+contextual only [go_sem,ofT,A3u,A02,XQ,ZX]);(repeat' first|(with_reducible refine hK' _ _ ?_;clear hK' K')|((with_reducible first|refine ⟨_,_,hlk _ rfl,?_⟩|refine ⟨_,hlk _ rfl,?_⟩);try simp+contextual only [go_sem,ofT,A3u,A02,XQ,ZX])|exact zY|with_reducible refine Qv5 ?_ ?_|(with_reducible intro hpath;try exact zP)|(refine hK' _ _ ?_;clear hK' K')|fail);try refine zS ?_))|(refine zE ?_;refine hK _ _ ?_;clear hK K)|(refine zN ?_;try refine zS ?_)|refine zA ?_|(refine zB ?_;intro K hK)|(refine zC ?_ ?_<;>(try refine zH ?_)<;>intro hcond<;>try exact zX)|fail)
 refine AWp.weak (Weak.head (m:=9) (by omega) ((fun t f=>[f,f,f,f,f,t,f,t,f,f,f,f,t,f,f,f,f,f,f,f,f,f]) true false) (by first | rfl | simp [mask]) (by first | rfl | simp) (by (repeat' (first | exact A0m _ | refine A0k ?_ ?_ | refine A0h ?_ ?_ | exact A0i _ | exact Qv4 | (show _<_; omega) | (intro c hc; cases hc; done) | (intro c hc; simp only [Qw,Qv,or_false] at hc; subst hc; first | exact Qv4 | (show _<_; omega)) | (intro c hc; simp only [Qw,Qv,or_false] at hc; rcases hc with rfl | rfl<;>first | exact Qv4 | (show _<_; omega))))) (by (repeat' (first | exact A0m _ | exact A0s _ | exact A0i _ | refine Qv5 ?_ ?_ | refine A0k ?_ ?_ | refine A0l ?_ ?_ | refine A0h ?_ ?_ | exact Qv4 | exact A1k | exact A0N | exact A0H (by omega) | (show _<_; omega) | exact A0r (fun _=>Qv4) | (intro c hc; cases hc; done) | (intro c hc; simp only [Qw,Qv,or_false] at hc; subst hc; first | exact Qv4 | exact A1k | exact A0N | exact A0H (by omega) | (show _<_; omega)) | (intro c hc; simp only [Qw,Qv,or_false] at hc; rcases hc with rfl | rfl<;>first | exact Qv4 | exact A1k | exact A0N | exact A0H (by omega) | (show _<_; omega)))))) (AWp.rangeFunc (fun k H=>H=[.box [.int .i64 (n:Int),.slice (A0f es) .none],.ro [.int .i64 (n:Int),.slice (A0f es)],.box (iC d),.box (iC s),.roC [.tree (.int .i64 (n:Int)),.tree (.slice (A0f es)),.tree (.int .i64 (q:Int)),.ref 2 1 0 n n,.ref 3 1 0 n n,.tree (.int .i64 0)],.box (bC R),.box [.ref 5 1 0 n n],.box [.fn f [.ptr 6 0]],.box [.int .i64 (joinL p ((lnkL es v).take k))]]∧(True)) (fun _ _=>False) 9 rfl (hI) (B2V rfl) (by omega) (by (repeat' (first | exact A0m _ | refine A0k ?_ ?_ | refine A0h ?_ ?_ | exact A0i _ | exact Qv4 | (show _<_; omega) | (intro c hc; cases hc; done) | (intro c hc; simp only [Qw,Qv,or_false] at hc; subst hc; first | exact Qv4 | (show _<_; omega)) | (intro c hc; simp only [Qw,Qv,or_false] at hc; rcases hc with rfl | rfl<;>first | exact Qv4 | (show _<_; omega))))) (by rintro _ _ ⟨rfl,-⟩; simp [hdn,hsn,hRn]) (fun _ _ h=>h.elim) ?_ (fun l k ts H hts hI=> ?_) (fun H hI=> ?_) (fun e H h=>h.elim))
 ·exact ⟨rfl,trivial⟩
 ·obtain ⟨rfl,-⟩:=hI;obtain ⟨x,hx,rfl⟩:=A7q hts;have hk:k<(lnkL es v).length:=(Qx.1 hx).1;have hxm:=Qy hx;have hkx:=hkb x hxm;have hnx:=B0F p ((lnkL es v).take k) x;rw [<-take_snoc hx] at hnx;have hb:=B45 p (l:=(lnkL es v).take k) (fun y hy=>hkb y (Vy hy));rw [YV] at hb;have hpx:=hp [.box [.fn f [.ptr 6 0]],.box [.int .i64 (joinL p ((lnkL es v).take k))]] x.1 x.2 hxm;generalize joinL p ((lnkL es v).take k)=a at*;generalize hnk:joinL p ((lnkL es v).take (k+1))=a2 at*;obtain ⟨u,m⟩:=x;simp only at hpx hnx hkx ⊢;simp only [mask,A43,List.zip_cons_cons,Jk,List.zip_nil_left,List.foldl_cons,List.foldl_nil,List.set_cons_succ,List.set_cons_zero,ofT,A3u,A02,XQ,ZX,ofT,A3u,toT,A0w,A0a,A0n,A0x,A3v,tG,A0E,A0q,B06];cases hb2:p u with
  | true=>
   rw [hb2] at hpx;rw [hb2,if_pos rfl] at hnx;refine zJ Qv6 Qv6 Qv6 (zc hpx Qv6) Qv6 ?_;refine ⟨⟨_,_⟩,Weak.head2 (m:=9) (by decide) ((fun t f=>[f,f,f,f,f,f,f,f,f,f,f,f,f,f,f,f,f,f,f,f,f,f]) true false) rfl rfl (zV3 @A1k @A0N @A0H),?_,?_⟩
   ·rw [hnk,hnx]; rfl
   ·trivial
  | false=>
   rw [hb2] at hpx;rw [hb2,if_neg (by simp)] at hnx;refine zJ Qv6 Qv6 Qv6 (zc hpx Qv6) Qv6 ?_;refine ⟨⟨_,_⟩,Weak.head2 (m:=9) (by decide) ((fun t f=>[f,f,f,f,f,f,f,f,f,f,f,f,f,f,f,f,f,f,f,f,f,f]) true false) rfl rfl (zV3 @A1k @A0N @A0H),?_,?_⟩
   ·rw [hnk,hnx]; rfl
   ·trivial
 ·obtain ⟨rfl,-⟩:=hI;rw [A7p,Zy];simp only [mask];refine zR Qv6 Qv6 Qv6 ?_;simp [A4O,A2c,A0v,A2b,Tryz.results161]
def B9F (n q:Nat) (es:List E) (d s:List Int) (R:List Bool) (hd:d≠[]) (hs:s≠[]) (hR:R≠[]) (hl:es.length<2^20) (hm: ∀e,e∈es->(0≤e.a∧e.a<2^40)∧(0≤e.b∧e.b<2^40)∧0≤e.m∧e.m≤50) (v:Int) (hv:0≤v∧v<2^40) (f:FuncId) (p:Int->Bool)
  (hp: ∀(B:List Blk) u k,(u,k)∈lnkL es v->ACallH Tryz.prog f ([.box [.int .i64 (n:Int),.slice (A0f es) .none],.ro [.int .i64 (n:Int),.slice (A0f es)],.box (iC d),.box (iC s),.roC [.tree (.int .i64 (n:Int)),.tree (.slice (A0f es)),.tree (.int .i64 (q:Int)),.ref 2 1 0 n n,.ref 3 1 0 n n,.tree (.int .i64 0)],.box (bC R),.box [.ref 5 1 0 n n]]++B) [.c (.int .i64 u),.c (.ptr 6 0)] ([.box [.int .i64 (n:Int),.slice (A0f es) .none],.ro [.int .i64 (n:Int),.slice (A0f es)],.box (iC d),.box (iC s),.roC [.tree (.int .i64 (n:Int)),.tree (.slice (A0f es)),.tree (.int .i64 (q:Int)),.ref 2 1 0 n n,.ref 3 1 0 n n,.tree (.int .i64 0)],.box (bC R),.box [.ref 5 1 0 n n]]++B) (.c (.bool (p u)))):
  ACallH Tryz.prog 161 [.box [.int .i64 (n:Int),.slice (A0f es) .none],.ro [.int .i64 (n:Int),.slice (A0f es)],.box (iC d),.box (iC s),.roC [.tree (.int .i64 (n:Int)),.tree (.slice (A0f es)),.tree (.int .i64 (q:Int)),.ref 2 1 0 n n,.ref 3 1 0 n n,.tree (.int .i64 0)],.box (bC R),.box [.ref 5 1 0 n n]] [.c (.ptr 4 0),.c (.int .i64 v),.c (.fn f [.ptr 6 0])] [.box [.int .i64 (n:Int),.slice (A0f es) .none],.ro [.int .i64 (n:Int),.slice (A0f es)],.box (iC d),.box (iC s),.roC [.tree (.int .i64 (n:Int)),.tree (.slice (A0f es)),.tree (.int .i64 (q:Int)),.ref 2 1 0 n n,.ref 3 1 0 n n,.tree (.int .i64 0)],.box (bC R),.box [.ref 5 1 0 n n]] (.c (.int .i64 (joinL p (lnkL es v)))):=
 (B7i n q es d s R hd hs hR hl hm v hv f p hp).trim (QQ _) Qv4 (C6t n q es d s R)
end Go.Proofs.YtdbdfkohpjefjaaGreat
