/- A part of the proof. -/
import Derived.Test.YtdbdfkohpjefjaaGreatPart20
import Derived.Test.YtdbdfkohpjefjaaGreatPart18
set_option linter.all false
set_option maxHeartbeats 4000000
set_option maxRecDepth 100000
namespace Go.Proofs.YtdbdfkohpjefjaaGreat
open Go.Sp
theorem B09 {f:Nat->Int} {a b:Nat} {x:E}:x∈B06 f a b↔ ∃j,j<b∧a≤j∧0<f j∧x=⟨a,j,f j⟩:=by
 simp only [B06,List.mem_filterMap,XQ];constructor
 ·rintro ⟨j,hj,h⟩;split at h
  ·rename_i hc; cases h; exact ⟨j,hj,hc.1,hc.2,rfl⟩
  ·cases h
 ·rintro ⟨j,hj,h1,h2,rfl⟩;exact ⟨j,hj,by rw [if_pos ⟨h1,h2⟩]⟩
theorem B1T {f:Nat->Nat->Int} {n a:Nat} {x:E}:x∈A3b f n a↔ ∃i j,i<a∧j<n∧i≤j∧0<f i j∧x=⟨i,j,f i j⟩:=by
 simp only [A3b,Qq1,XQ,B09];constructor
 ·rintro ⟨i,hi,j,h⟩; exact ⟨i,j,hi,h⟩
 ·rintro ⟨i,j,hi,h⟩; exact ⟨i,hi,j,h⟩
theorem B3p (f:Nat->Int) (a b:Nat):(B06 f a b).Pairwise ltE:=by
 induction b with
 | zero=>exact List.Pairwise.nil
 | succ b ih=>
  rw [B1O,Qq8];refine ⟨ih,by split<;>simp,fun x hx y hy=> ?_⟩;obtain ⟨j,hj,h1,h2,rfl⟩:=B09.1 hx;split at hy
  ·obtain rfl:=XJ.1 hy;exact .inr ⟨rfl,ZY.2 hj⟩
  ·simp at hy
theorem A7h (f:Nat->Nat->Int) (n a:Nat):(A3b f n a).Pairwise ltE:=by
 induction a with
 | zero=>exact List.Pairwise.nil
 | succ a ih=>
  rw [A3B,Qq8];refine ⟨ih,B3p _ _ _,fun x hx y hy=> ?_⟩;obtain ⟨i,j,hi,hj,h1,h2,rfl⟩:=B1T.1 hx;obtain ⟨j',_,_,_,rfl⟩:=B09.1 hy;exact .inl (ZY.2 hi)
theorem B4p {l:List E} (h:l.Pairwise ltE):l.Nodup:=h.imp fun {a b} h e=>by subst e; unfold ltE at h; omega
theorem A2V {es:List E} (h:distinctE es) {x:E} (hx:x∈es):A3v es x.a x.b=x.m:=by
 induction es with
 | nil=>cases hx
 | cons y ys ih=>
  have hp:=WX.1 h;simp only [A3v];rcases Qw.1 hx with rfl | hx
  ·rw [if_pos ⟨rfl,rfl⟩]
  ·have:=hp.1 x hx;unfold neE at this;rw [if_neg (by omega),ih hp.2 hx]
theorem A2W {es:List E} {a b:Int} (h:A3v es a b≠0):(⟨a,b,A3v es a b⟩:E)∈es:=by
 induction es with
 | nil=>simp [A3v] at h
 | cons y ys ih=>
  simp only [A3v] at h ⊢;by_cases hy:y.a=a∧y.b=b
  ·rw [if_pos hy];obtain ⟨ya,yb,ym⟩:=y;simp only at hy;obtain ⟨rfl,rfl⟩:=hy;simp
  ·rw [if_neg hy] at h ⊢;exact YZ _ (ih h)
theorem C07 {es:List E} {n:Nat} (hs:es.Pairwise ltE) (hr: ∀e,e∈es->0≤e.a∧e.a≤e.b∧e.b<n∧1≤e.m):A3b (fun i j=>A3v es i j) n n=es:=by
 refine A3P (A7h _ _ _) hs ((Vw (B4p (A7h _ _ _)) (B4p hs)).2 fun x=> ?_);rw [B1T];constructor
 ·rintro ⟨i,j,hi,hj,hij,hp,rfl⟩;exact A2W (by omega)
 ·intro hx;have:=hr x hx;have hc:=A2V (B2V hs) hx;refine ⟨x.a.toNat,x.b.toNat,by omega,by omega,by omega,?_,?_⟩
  ·rw [show ((x.a.toNat:Nat):Int)=x.a by omega,show ((x.b.toNat:Nat):Int)=x.b by omega,hc]; omega
  ·rw [show ((x.a.toNat:Nat):Int)=x.a by omega,show ((x.b.toNat:Nat):Int)=x.b by omega,hc]
theorem C24 {f:Nat->Nat->Int} {es:List E} {n:Nat} (hs:es.Pairwise ltE) (hr: ∀e,e∈es->0≤e.a∧e.a≤e.b∧e.b<n∧1≤e.m) (hf: ∀i j:Nat,i≤j->j<n->f i j=A3v es i j):A3b f n n=es:=by
 rw [B3k hf n (QQ _),C07 hs hr]
theorem B8c {es fs:List E} (hp:es.Perm fs) (hd:distinctE es) (a b:Int):A3v es a b=A3v fs a b:=by
 have hd':distinctE fs:=(Qx2 neE.symm hp).1 hd;by_cases h:A3v es a b=0
 ·by_cases h2:A3v fs a b=0
  ·rw [h,h2]
  ·have:=A2W h2;have:=A2V hd (hp.mem_iff.2 this);exact this
 ·have:=A2W h;exact (A2V hd' (hp.mem_iff.1 this)).symm
theorem B4q (es:List E) (a b m i j:Int):A3v (A17 es a b m) i j=if i=a∧j=b then m else A3v es i j:=by
 induction es with
 | nil=>
  simp only [A17,A3v];by_cases h:i=a∧j=b
  ·rw [if_pos h,if_pos ⟨h.1.symm,h.2.symm⟩]
  ·rw [if_neg h,if_neg fun x=>h ⟨x.1.symm,x.2.symm⟩]
 | cons x xs ih=>
  simp only [A17];by_cases hx:x.a=a∧x.b=b
  ·rw [if_pos hx];simp only [A3v];by_cases h:i=a∧j=b
   ·rw [if_pos h,if_pos ⟨h.1.symm,h.2.symm⟩]
   ·rw [if_neg h,if_neg fun x=>h ⟨x.1.symm,x.2.symm⟩,if_neg fun y=>h ⟨by omega,by omega⟩]
  ·rw [if_neg hx];simp only [A3v,ih];by_cases hy:x.a=i∧x.b=j
   ·rw [if_pos hy,if_pos hy,if_neg fun h=>hx ⟨by omega,by omega⟩]
   ·rw [if_neg hy,if_neg hy]
def cG (l:List (Int×Int)) (k a b:Nat):Int:=A3v (A5h (l.take k)) a b
theorem C25 {l:List (Int×Int)} {k n a b:Nat} {p:Int×Int} (h:l[k]? =some p) (ha:min p.1 p.2=(a:Int)) (hb:max p.1 p.2=(b:Int)):
  A5A n (fun i j=>if i=a∧j=b then cG l k a b+1 else cG l k i j)=A5A n (cG l (k+1)):=by
 refine B5D fun i j _ _=> ?_;unfold cG;rw [take_snoc h,A5X,A8p,B4q,ha,hb];by_cases e:i=a∧j=b
 ·rw [if_pos e,if_pos ⟨by omega,by omega⟩]
 ·rw [if_neg e,if_neg fun x=>e ⟨by omega,by omega⟩]
def okP (n:Int) (p:Int×Int):Prop:=(0≤p.1∧p.1<n)∧(0≤p.2∧p.2<n)
theorem C08 (n:Int) (l:List (Int×Int)) (hl:l.length<2^40):ACall Tryz.prog 175 [A0m n,A0B l] (.tup [tG (A52 n l).1,A0m (A52 n l).2]):=by
 refine ACall.of_body Tryz.func175 rfl (by kernel_rfl) ?_;simp only [entry,Tryz.ntmps175,A0m,A0B];refine zU ?_;by_cases hn:n<1∨12<n
 ·
  have e:A52 n l=(⟨0,[]⟩,2):=by unfold A52; rw [if_pos hn]
  by_cases hn1:n<1
  ·
   refine zR (zc @hn1 Qw8) Qw8 Qw8 ?_;simp [A0z,A0y,Blk.cells,ty,Tryz.results175,A0t,A0u,toT,A0d,A0b,A0c,A0a,A0m,tG,e,A0f]
  ·have hn2:12<n:=by omega
   refine zR (zc @hn1 (zc @hn2 Qw8)) Qw8 Qw8 ?_;simp [A0z,A0y,Blk.cells,ty,Tryz.results175,A0t,A0u,toT,A0d,A0b,A0c,A0a,A0m,tG,e,A0f]
 have hn1: ¬n<1:=by omega
 have hn2: ¬12<n:=by omega
 by_cases hlen:(4096:Int)<(l.length:Int)
 ·
  have e:A52 n l=(⟨0,[]⟩,5):=by unfold A52; rw [if_neg hn,if_pos (by omega)]
  refine zR (zc @hn1 (zc @hn2 (zc @A05 (zc @hlen Qw8)))) Qw8 Qw8 ?_;simp [A0z,A0y,Blk.cells,ty,Tryz.results175,A0t,A0u,toT,A0d,A0b,A0c,A0a,A0m,tG,e,A0f]
 obtain ⟨m,hm⟩: ∃m:Nat,n=m:=⟨n.toNat,by omega⟩;subst hm;have hT1:=B7S m (by omega);have hc0: ∀a b,cG l 0 a b=0:=fun a b=>rfl;rw [C21 m (cG l 0) hc0] at hT1;refine zJ Qw8 (zc @hn1 (zc @hn2 (zc @A05 (zc @hlen Qw8)))) Qw8 (zc hT1 Qw8) Qw8 ?_;refine AWp.loopS (α:=Nat) 93 (fun k=>[(0,.c (.int .i64 (m:Int))),(1,.c (.slice (A1b l) .none)),(4,.c (.ptr 0 0)),(6,.c (.rows (A3U 2 m m) (.chain 1))),(7,.c (.int .i64 (k:Int)))]) (fun k=>.box [.int .i64 0,.nils]:: .chain m 1::(A5A m (cG l k)).map rowB) (fun k=>k≤l.length∧(∀j,j<k-> ∀p,l[j]? =some p->okP m p)∧BagOk m k (A5h (l.take k))) (fun k=>l.length-k) (0) (hk:=Weak.headL (m+2) 93 [0,1,4,6,7] (by (repeat' (first | exact A0l _ | exact A0r _ | exact A0h _ | refine Qw7 ?_ ?_ | refine A0i ?_ ?_ | refine A0k ?_ ?_ | refine A0g ?_ ?_ | exact Qw6 | exact A0Q (by omega) | exact A08 | exact A09 | (show _<_; omega) | exact A0p (fun _=>Qw6) | (intro c hc; cases hc; done) | (intro c hc; simp only [Qw,Qv,or_false] at hc; subst hc; first | exact Qw6 | exact A0Q (by omega) | exact A08 | exact A09 | (show _<_; omega)) | (intro c hc; simp only [Qw,Qv,or_false] at hc; rcases hc with rfl | rfl<;>first | exact Qw6 | exact A0Q (by omega) | exact A08 | exact A09 | (show _<_; omega)))))) (h0:=?_) (round:=fun k hI=>?_)
 ·exact ⟨Xj _,fun j hj=>by omega,List.Pairwise.nil,by simp [A5h],by simp [A5h],by simp [A5h]⟩
 ·obtain ⟨hk,hok,hbag⟩:=hI;by_cases hlt:k<l.length
  ·have e0:=Qq hlt;have e1:=A2P e0;generalize l[k]=p at*;by_cases hp:okP m p
   case neg=>
    have e:A52 m l=(⟨0,[]⟩,2):=by
     unfold A52;rw [if_neg hn,if_neg (by omega),if_pos ⟨p,Qy e0,hp⟩]
    unfold okP at hp
    repeat' (first|((first|(refine zT ?_;intro K' hK')|(refine zG ?_ ?_<;>(try refine zH ?_)<;>intro hguard<;>(try exact zX)<;>try intro K' hK'))<;>((try simp+contextual only [go_sem,e1,A05,Int.toNat_natCast,ZY]);(repeat' first|(with_reducible refine hK' _ _ ?_;clear hK' K')|exact zY|with_reducible refine Qw7 ?_ ?_|(with_reducible intro hpath;try exact zP)|(refine hK' _ _ ?_;clear hK' K')|fail);try refine zS ?_))|(refine zE ?_;refine hK _ _ ?_;clear hK K)|(refine zN ?_;try refine zS ?_)|refine zA ?_|(refine zB ?_;intro K hK)|(refine zC ?_ ?_<;>(try refine zH ?_)<;>intro hcond<;>try exact zX)|fail)
    all_goals
     first
     | (exfalso; omega)
     | skip
    all_goals
     simp [A0z,A0y,Blk.cells,ty,Tryz.results175,A0t,A0u,toT,A0d,A0b,A0c,A0a,A0m,tG,e,A0f]
   obtain ⟨⟨p1,p2⟩,⟨p3,p4⟩⟩:=hp;obtain ⟨a,ha⟩: ∃a:Nat,min p.1 p.2=a:=⟨(min p.1 p.2).toNat,by omega⟩;obtain ⟨b,hb⟩: ∃b:Nat,max p.1 p.2=b:=⟨(max p.1 p.2).toNat,by omega⟩;have ham:a<m:=by omega
   have hbm:b<m:=by omega
   have hst:=C25 (n:=m) e0 ha hb;have hr:=A85 (base:=2) (n:=m) ham;have hrow:=A6i (cG l k) ham;have hg1:=B7V hrow;have hset:=C02 (cG l k) ham hbm (cG l k a b+1);rw [hst] at hset;have hcb:0≤cG l k a b∧cG l k a b≤k:=⟨B7n fun e he=>(hbag.m e he).1,B7m (fun e he=>(hbag.m e he).2) (by omega)⟩;have hrl:((List.range m).map fun b=>cG l k a b).length=m:=by simp
   have hrg:((List.range m).map fun b=>cG l k a b)[b]? =some (cG l k a b):=by simp [hbm]
   have hic:=A5Y hrg;have hbag2:BagOk m (k+1) (A5h (l.take (k+1))):=by
    rw [take_snoc e0,A5X]; exact B3Y hbag ⟨p1,p2⟩ ⟨p3,p4⟩
   have q1: ¬p.1<0:=by omega
   have q2: ¬(m:Int)≤p.1:=by omega
   have q3: ¬p.2<0:=by omega
   have q4: ¬(m:Int)≤p.2:=by omega
   have hTn:A5A m (cG l (k+1))=A5A m (cG l (k+1)):=rfl;generalize ((List.range m).map fun b=>cG l k a b)=row at*;generalize A5A m (cG l k)=T at*;generalize cG l k a b=x at*;refine zR (zc @e1 (zc @A05 (zc @ZY (zc @q1 (zc @q2 (zc @q3 (zc @q4 (zc @ha (zc @hb (zc @hr (zc @hg1 (zc @hic (zc @A11 (zc @hrl (zc @A94 (zc @C20 (zc @hset Qw8))))))))))))))))) Qw8 Qw8 ?_;refine ⟨k+1,Weak.headN (m+2) 93 [0,1,4,6,7] (by (repeat' (first | exact A0l _ | exact A0r _ | exact A0h _ | refine Qw7 ?_ ?_ | refine A0i ?_ ?_ | refine A0k ?_ ?_ | refine A0g ?_ ?_ | exact Qw6 | exact A0Q (by omega) | exact A08 | exact A09 | (show _<_; omega) | exact A0p (fun _=>Qw6) | (intro c hc; cases hc; done) | (intro c hc; simp only [Qw,Qv,or_false] at hc; subst hc; first | exact Qw6 | exact A0Q (by omega) | exact A08 | exact A09 | (show _<_; omega)) | (intro c hc; simp only [Qw,Qv,or_false] at hc; rcases hc with rfl | rfl<;>first | exact Qw6 | exact A0Q (by omega) | exact A08 | exact A09 | (show _<_; omega))))),?_,?_⟩
   ·refine ⟨hlt,fun j hj q hq=> ?_,hbag2⟩;by_cases hjk:j=k
    ·subst hjk;rw [e0] at hq; cases hq;exact ⟨⟨p1,p2⟩,⟨p3,p4⟩⟩
    ·exact hok j (by omega) q hq
   ·omega
  ·have ek:k=l.length:=by omega
   rw [ek] at hbag hok ⊢;have hcl: ∀a b,cG l l.length a b=A3v (A5h l) a b:=fun a b=>by unfold cG; rw [Zw]
   rw [Zw] at hbag;have hnob: ¬ ∃p,p∈l∧ ¬((0≤p.1∧p.1<(m:Int))∧(0≤p.2∧p.2<(m:Int))):=by
    rintro ⟨p,hp,hx⟩;obtain ⟨j,hj⟩:=ZZ.1 hp;exact hx (hok j (Qx.1 hj).1 p hj)
   refine zR (zc @A05 (zc @ZY Qw8)) Qw8 Qw8 ?_;refine AWp.loopS (α:=Nat) 93 (fun a=>[(0,.c (.int .i64 (m:Int))),(4,.c (.ptr 0 0)),(6,.c (.rows (A3U 2 m m) (.chain 1))),(10,.c (.int .i64 (a:Int)))]) (fun a=>.box [.int .i64 0,.nils]:: .chain m 1::(A5A m (cG l l.length)).map rowB) (fun a=>a≤m∧ ∀i j:Nat,i<a->j<m->cG l l.length i j≤50) (fun a=>m-a) (0) (hk:=Weak.headL (m+2) 93 [0,4,6,10] (by (repeat' (first | exact A0l _ | exact A0r _ | exact A0h _ | refine Qw7 ?_ ?_ | refine A0i ?_ ?_ | refine A0k ?_ ?_ | refine A0g ?_ ?_ | exact Qw6 | exact A0Q (by omega) | exact A08 | exact A09 | (show _<_; omega) | exact A0p (fun _=>Qw6) | (intro c hc; cases hc; done) | (intro c hc; simp only [Qw,Qv,or_false] at hc; subst hc; first | exact Qw6 | exact A0Q (by omega) | exact A08 | exact A09 | (show _<_; omega)) | (intro c hc; simp only [Qw,Qv,or_false] at hc; rcases hc with rfl | rfl<;>first | exact Qw6 | exact A0Q (by omega) | exact A08 | exact A09 | (show _<_; omega)))))) (h0:=?_) (round:=fun a hI=>?_)
   ·exact ⟨Xj _,fun i j hi=>by omega⟩
   ·obtain ⟨ha,hA⟩:=hI;by_cases hlta:a<m
    ·have hltaI:(a:Int)<m:=by omega
     refine zR (zc @hltaI Qw8) Qw8 Qw8 ?_;refine AWp.loopS (α:=Nat) 93 (fun b=>[(0,.c (.int .i64 (m:Int))),(4,.c (.ptr 0 0)),(6,.c (.rows (A3U 2 m m) (.chain 1))),(10,.c (.int .i64 (a:Int))),(11,.c (.int .i64 (b:Int)))]) (fun b=>.box [.int .i64 0,.nils]:: .chain m 1::(A5A m (cG l l.length)).map rowB) (fun b=>b≤m∧ ∀j:Nat,j<b->cG l l.length a j≤50) (fun b=>m-b) (0) (hk:=Weak.headL (m+2) 93 [0,4,6,10,11] (by (repeat' (first | exact A0l _ | exact A0r _ | exact A0h _ | refine Qw7 ?_ ?_ | refine A0i ?_ ?_ | refine A0k ?_ ?_ | refine A0g ?_ ?_ | exact Qw6 | exact A0Q (by omega) | exact A08 | exact A09 | (show _<_; omega) | exact A0p (fun _=>Qw6) | (intro c hc; cases hc; done) | (intro c hc; simp only [Qw,Qv,or_false] at hc; subst hc; first | exact Qw6 | exact A0Q (by omega) | exact A08 | exact A09 | (show _<_; omega)) | (intro c hc; simp only [Qw,Qv,or_false] at hc; rcases hc with rfl | rfl<;>first | exact Qw6 | exact A0Q (by omega) | exact A08 | exact A09 | (show _<_; omega)))))) (h0:=?_) (round:=fun b hI=>?_)
     ·exact ⟨Xj _,fun j hj=>by omega⟩
     ·obtain ⟨hb,hB⟩:=hI;by_cases hltb:b<m
      ·have hltbI:(b:Int)<m:=by omega
       have hr:=A85 (base:=2) (n:=m) hlta;have hrow:=A6i (cG l l.length) hlta;have hg1:=B7V hrow;have hrl:((List.range m).map fun b=>cG l l.length a b).length=m:=by simp
       have hrg:((List.range m).map fun b=>cG l l.length a b)[b]? =some (cG l l.length a b):=by simp [hltb]
       have hic:=A5Y hrg;by_cases hbig:50<cG l l.length a b
       ·have e:A52 m l=(⟨0,[]⟩,5):=by
         unfold A52;rw [if_neg hn,if_neg (by omega),if_neg hnob,if_pos ⟨_,A2W (es:=A5h l) (a:=a) (b:=b) (by rw [<-hcl]; omega),by simp only; rw [<-hcl]; exact hbig⟩]
        generalize ((List.range m).map fun b=>cG l l.length a b)=row at*;generalize A5A m (cG l l.length)=T at*;generalize cG l l.length a b=x at*;refine zR (zc @hltbI (zc @hr (zc @hg1 (zc @hic (zc @A11 (zc @hrl (zc @hbig Qw8))))))) Qw8 Qw8 ?_;simp [A0z,A0y,Blk.cells,ty,Tryz.results175,A0t,A0u,toT,A0d,A0b,A0c,A0a,A0m,tG,e,A0f]
       ·generalize ((List.range m).map fun b=>cG l l.length a b)=row at*;generalize hxx:cG l l.length a b=x at*;refine zR (zc @hltbI (zc @hr (zc @hg1 (zc @hic (zc @A11 (zc @hrl (zc @hbig Qw8))))))) Qw8 Qw8 ?_;refine ⟨b+1,Weak.headN (m+2) 93 [0,4,6,10,11] (by (repeat' (first | exact A0l _ | exact A0r _ | exact A0h _ | refine Qw7 ?_ ?_ | refine A0i ?_ ?_ | refine A0k ?_ ?_ | refine A0g ?_ ?_ | exact Qw6 | exact A0Q (by omega) | exact A08 | exact A09 | (show _<_; omega) | exact A0p (fun _=>Qw6) | (intro c hc; cases hc; done) | (intro c hc; simp only [Qw,Qv,or_false] at hc; subst hc; first | exact Qw6 | exact A0Q (by omega) | exact A08 | exact A09 | (show _<_; omega)) | (intro c hc; simp only [Qw,Qv,or_false] at hc; rcases hc with rfl | rfl<;>first | exact Qw6 | exact A0Q (by omega) | exact A08 | exact A09 | (show _<_; omega))))),?_,?_⟩
        ·refine ⟨hltb,fun j hj=> ?_⟩;by_cases e:j=b
         ·subst e; omega
         ·exact hB j (by omega)
        ·omega
      ·have eb:b=m:=by omega
       have hnl: ¬((b:Int)<m):=by omega
       refine zR (zc @hnl Qw8) Qw8 Qw8 ?_;refine ⟨a+1,Weak.headN (m+2) 93 [0,4,6,10] (by (repeat' (first | exact A0l _ | exact A0r _ | exact A0h _ | refine Qw7 ?_ ?_ | refine A0i ?_ ?_ | refine A0k ?_ ?_ | refine A0g ?_ ?_ | exact Qw6 | exact A0Q (by omega) | exact A08 | exact A09 | (show _<_; omega) | exact A0p (fun _=>Qw6) | (intro c hc; cases hc; done) | (intro c hc; simp only [Qw,Qv,or_false] at hc; subst hc; first | exact Qw6 | exact A0Q (by omega) | exact A08 | exact A09 | (show _<_; omega)) | (intro c hc; simp only [Qw,Qv,or_false] at hc; rcases hc with rfl | rfl<;>first | exact Qw6 | exact A0Q (by omega) | exact A08 | exact A09 | (show _<_; omega))))),?_,?_⟩
       ·refine ⟨hlta,fun i j hi hj=> ?_⟩;by_cases e:i=a
        ·subst e; exact hB j (by omega)
        ·exact hA i j (by omega) hj
       ·omega
    ·have ea:a=m:=by omega
     have hnl: ¬((a:Int)<m):=by omega
     have hno5: ¬ ∃e,e∈A5h l∧50<e.m:=by
      rintro ⟨e,he,hx⟩;have hr:=hbag.r e he;have hc:=A2V hbag.d he;have:=hA e.a.toNat e.b.toNat (by omega) (by omega);rw [hcl,show ((e.a.toNat:Nat):Int)=e.a by omega,show ((e.b.toNat:Nat):Int)=e.b by omega,hc] at this;omega
     have e:A52 m l=(⟨m,A2Q (A5h l)⟩,0):=by
      unfold A52;rw [if_neg hn,if_neg (by omega),if_neg hnob,if_neg hno5]
     have hperm:=A1u (A5h l)
     have hj:=C24 (f:=cellT (A5A m (cG l l.length))) (es:=A2Q (A5h l)) (n:=m) (A2t hbag.d) (fun x hx=>by
      have h1:=hbag.r x (hperm.mem_iff.1 hx);have h2:=hbag.m x (hperm.mem_iff.1 hx)
      omega) (fun i j hij hj=>by
      rw [B7W _ (by omega) hj,hcl]
      exact (B8c hperm ((Qx2 neE.symm hperm).2 hbag.d) i j).symm)
     have hJ:=B7U m (A5A m (cG l l.length)) (by omega) (A56 _ _);rw [hj] at hJ;refine B5C [.box [.int .i64 0,.nils],.chain m 1] 6 (.chain 1) m (A5A m (cG l l.length)) (A56 _ _) rfl ?_;simp only [List.set_cons_succ,List.set_cons_zero,List.cons_append,List.nil_append];refine zR (zc @hnl Qw8) (zc hJ Qw8) Qw8 ?_;simp [A0z,A0y,Blk.cells,ty,Tryz.results175,A0t,A0u,toT,A0d,A0b,A0c,A0a,A0m,tG,e]
def isP (a b:Int) (p:Int×Int):Bool:=decide (min p.1 p.2=a∧max p.1 p.2=b)
theorem C09 (l:List (Int×Int)) (a b:Int): ∀k,k≤l.length->A3v (A5h (l.take k)) a b=((l.take k).countP (isP a b):Int):=by
 intro k
 induction k with
 | zero=>intro _; rfl
 | succ k ih=>
  intro hk;have e0:=Qq (l:=l) (i:=k) (by omega);rw [take_snoc e0,A5X,A8p,B4q,List.countP_append,Qz6,List.countP_nil];have ih:=ih (by omega);by_cases h:a=min l[k].1 l[k].2∧b=max l[k].1 l[k].2
  ·rw [if_pos h,<-h.1,<-h.2,ih,if_pos (by unfold isP; simp [h.1,h.2])]; omega
  ·rw [if_neg h,ih,if_neg (by unfold isP; simp only [decide_eq_true_eq]; omega)]; omega
theorem B8d {n:Int} {l:List (Int×Int)} (h: ∀p,p∈l->okP n p): ∀k,k≤l.length->BagOk n k (A5h (l.take k)):=by
 intro k
 induction k with
 | zero=>intro _; exact ⟨List.Pairwise.nil,by simp [A5h],by simp [A5h],by simp [A5h]⟩
 | succ k ih=>
  intro hk;have e0:=Qq (l:=l) (i:=k) (by omega);have ho:=h _ (Xv (by omega:k<l.length));rw [take_snoc e0,A5X];exact B3Y (ih (by omega)) ho.1 ho.2
instance (n:Int) (p:Int×Int):Decidable (okP n p):=by unfold okP; infer_instance
theorem _root_.Go.Sp.Weak.untok {h:Nat} {tm:List AVal} {H:List Blk} (t:Nat) {rows:List (List Tree)} {tok:Tok} (ht:tm[t]? =some (.c (.slice rows tok))):Weak h ⟨tm,H⟩ ⟨tm.set t (.c (.slice rows .none)),H⟩:=by
 intro ι σ a w hr;exact ⟨ι,⟨A4T ht (fun v hv=>⟨hv.1,trivial⟩) hr.tmps,hr.heap⟩,rfl,rfl⟩
end Go.Proofs.YtdbdfkohpjefjaaGreat
