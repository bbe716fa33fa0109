/- A part of the proof. -/
import Derived.Test.YtdbdfkohpjefjaaGreatPart36
set_option linter.all false
set_option maxHeartbeats 4000000
set_option maxRecDepth 100000
namespace Go.Proofs.YtdbdfkohpjefjaaGreat
open Go.Sp
def mMI (f:Int->Int) (l:List Int):List (MKey×MV):=l.map fun x=>(.int x,.c (.int .i64 (f x)))
theorem B48 {f:Int->Int} {l:List Int}: ∀e,e∈mMI f l->KShape.ok .int e.1=true:=fun e h=>by
 obtain ⟨x,_,rfl⟩:=Xq.1 h;rfl
theorem B8P (f:Int->Int): ∀(l:List Int) (x:Int),x∉l->mIdx (mMI f l) (.int x)=none
 | [],x,_=>rfl
 | y::l,x,h=>by
  have h1: ¬y=x:=fun e=>h (by simp [e]);have h2:=B8P f l x (fun hm=>h (by simp [hm]));unfold mIdx at h2 ⊢;unfold mMI at h2 ⊢;simp only [Xy,Jk,h2,Option.map_none];rw [if_neg];intro e;have:(MKey.int y)= .int x:=by simpa using e
  injection this with e;exact h1 e
theorem B0K (f:Int->Int) {x:Int}: ∀{l:List Int},x∈l-> ∀z:MV,A61 (mMI f l) (.int x) z= .c (.int .i64 (f x))
 | y::l,h,z=>by
  unfold A61 mIdx mMI;rw [Xy,Jk];by_cases e:y=x
  ·subst e; simp
  ·have h2:=B0K f (List.mem_of_ne_of_mem (Ne.symm e) h) z;unfold A61 mIdx mMI at h2;have hne:(MKey.int y==MKey.int x)=false:=by simp [e]
   simp only [hne,YQ,if_false];cases hi:List.findIdx? (fun e=>e.1==MKey.int x) (List.map (fun x=>(MKey.int x,MV.c (Tree.int IntKind.i64 (f x)))) l) with
   | none=>
    rw [hi] at h2;exfalso;rw [List.findIdx?_eq_none_iff] at hi;have:=hi (MKey.int x,MV.c (Tree.int IntKind.i64 (f x))) (Xq.2 ⟨x,List.mem_of_ne_of_mem (Ne.symm e) h,rfl⟩);simp at this
   | some i=>rw [hi] at h2; simpa using h2
theorem B8Q {f:Int->Int} {l:List Int} {x:Int} (h:x∉l) {y:Int} (hy:y=f x):B22 (mMI f l) (.int x) (.c (.int .i64 y))=mMI f (l++[x]):=by
 unfold B22; rw [B8P f l x h,hy]; simp [mMI]
section
variable {r:R}
theorem B49 (hr:ROk r):r.ar.flatten.Nodup∧ ∀x,x∈r.ar.flatten↔0≤x∧x<2*((endsL r.es).length:Int):=by
 have hrow: ∀(i:Nat) l,r.ar[i]? =some l-> ∀x,x∈l↔0≤x∧x<2*((endsL r.es).length:Int)∧atL (endsL r.es) x.toNat=(i:Int):=fun i l hl x=>by
  have h:=hr.l i l hl;constructor
  ·intro hx;have:=A1L.1 (h.sub _ hx);exact ⟨this.1,by omega,this.2.2⟩
  ·rintro ⟨h1,h2,h3⟩;exact h.sup _ (A1L.2 ⟨h1,by omega,h3⟩)
 constructor
 ·rw [List.Nodup,List.pairwise_flatten];refine ⟨fun l hl=> ?_,?_⟩
  ·obtain ⟨i,hi⟩:=ZZ.1 hl;exact (hr.l i l hi).nd
  ·rw [YX];intro i j hi hj hij x hx y hy e;subst e;have h1:=(hrow i _ (Qq hi) x).1 hx;have h2:=(hrow j _ (Qq hj) x).1 hy;omega
 ·intro x;rw [List.mem_flatten];constructor
  ·rintro ⟨l,hl,hx⟩;obtain ⟨i,hi⟩:=ZZ.1 hl;have:=(hrow i l hi x).1 hx;exact ⟨this.1,this.2.1⟩
  ·rintro ⟨h1,h2⟩;have ha:=A1D hr.c (show x.toNat<2*(endsL r.es).length by omega);have hlen:=hr.len;have hlt:(atL (endsL r.es) x.toNat).toNat<r.ar.length:=by omega
   have e:=Qq hlt;exact ⟨_,Qy e,(hrow _ _ e x).2 ⟨h1,h2,by omega⟩⟩
def beginR (r:R):Nat:=((r.ar.getD 0 []).getD 0 0).toNat
def tourN (r:R) (t:List Int) (k:Nat):Nat:=it (A8z (sR (endsL r.es) r.ar) (A8N t)) k (beginR r)
def A9a (r:R) (t:List Int):List (List TVal):=(List.range (2*(endsL r.es).length)).map fun k=>[A0m (tourN r t k:Nat),A0m (gR (endsL r.es) (tourN r t k):Nat)]
theorem A6p (r:R) (t:List Int):(A9a r t).length=2*(endsL r.es).length:=by simp [A9a]
theorem B2f {r:R} {t:List Int} {k:Nat} (h:k<2*(endsL r.es).length):(A9a r t)[k]? =some [A0m (tourN r t k:Nat),A0m (gR (endsL r.es) (tourN r t k):Nat)]:=by
 unfold A9a; rw [QY,Yw h]; rfl
structure RTree (r:R) (t:List Int):Prop where
 ok:ROk r
 rng: ∀x,x∈t->0≤x∧x<((endsL r.es).length:Int)
 tree:treeB r.n.toNat (endsL r.es) t=true
theorem C5p (hr:ROk r): ∃l,r.ar[0]? =some l∧r.ar.getD 0 []=l∧(l=[]↔(endsL r.es).length=0)∧(l≠[]->0≤l.getD 0 0∧l.getD 0 0<2*((endsL r.es).length:Int)):=by
 obtain ⟨l,h1,h2,h3⟩:=hr.rowv (A4G hr);refine ⟨l,h1,h2,?_,fun hne=> ?_⟩
 ·constructor
  ·intro e;refine ZV fun hE=> ?_;subst e;have hA:=B46 hr;have h0:arN r 0=[]:=by unfold arN; rw [h2]; rfl
   have hno: ∀x,x<2*(endsL r.es).length->gR (endsL r.es) x≠0:=fun x hx e=>by
    have:=(hA.mem 0 x (A4G hr)).2 ⟨hx,e⟩;rw [h0] at this; cases this
   have hg:=(A89 hr).lt 0 (by omega);have hc:=hr.conn;have hc2:connB r.g=true:=hc;rw [A3D hr.c (n:=r.n.toNat) (by have:=(A0j.1 hr.c).1; show r.n=_; have:r.g.n=r.n:=rfl; omega),decide_eq_true_eq] at hc2;have:=A77 (A6j _ _) hc2 (A4G hr) hg;have key: ∀{a b:Nat},Conn (endsL r.g.es) a b->a=0->b=0:=fun {a b} h=>by
    induction h with
    | refl=>exact id
    | step _ hs ih=>
     rename_i b c _;intro ha;have hb:=ih ha;subst hb;exfalso;have go: ∀{c:Nat} {z:Int},(((0:Nat):Int),z)∈endsL r.es∨(z,((0:Nat):Int))∈endsL r.es->False:=fun {c z} h=>by
      rcases h with h | h
      ·obtain ⟨k,hk⟩:=ZZ.1 h;have hkl:=(Qx.1 hk).1;have:=A5e hr k hkl;rw [this] at hk; injection hk with hk; injection hk with e1 _;exact hno (2*k) (by omega) (by omega)
      ·obtain ⟨k,hk⟩:=ZZ.1 h;have hkl:=(Qx.1 hk).1;have:=A5e hr k hkl;rw [this] at hk; injection hk with hk; injection hk with _ e2;exact hno (2*k+1) (by omega) (by omega)
     exact go (c:=c) hs
   exact hno 0 (by omega) (key this rfl)
  ·intro e;have:l.length=0:=by
    rw [h3.len];have:ownL (endsL r.es) ((0:Nat):Int) (2*(endsL r.es).length)=[]:=by rw [e]; rfl
    rw [this]; rfl
   exact ZW.1 this
 ·obtain ⟨x,l',rfl⟩:=List.exists_cons_of_ne_nil hne;have:=A1L.1 (h3.sub x (by simp));show 0≤x∧x<_;omega
theorem C0X (hr:ROk r) (hE:(endsL r.es).length≠0):beginR r<2*(endsL r.es).length:=by
 obtain ⟨l,h1,h2,h3,h4⟩:=C5p hr;unfold beginR;rw [h2];have:=h4 fun e=>hE (h3.1 e);omega
theorem RTree.tour {t:List Int} (h:RTree r t) (hE:(endsL r.es).length≠0): ∃p,TourP (2*(endsL r.es).length) (A8z (sR (endsL r.es) r.ar) (A8N t)) (beginR r) p:=C0W h.ok h.rng h.tree (C0X h.ok hE)
end
theorem B8R {r:R} (hr:ROk r) {i:Nat} {l:List Int} (hl:r.ar[i]? =some l) {j:Nat} {x:Int} (hx:l[j]? =some x):atL (endsL r.es) x.toNat=(i:Int)∧l[(j+1)%l.length]? =some (nextR (endsL r.es) r.ar x.toNat)∧0≤x:=by
 have hok:=hr.l i l hl;have hi:=(Qx.1 hx).1;have hm:=A1L.1 (hok.sub x (Qy hx));have hgl:r.ar.getD i []=l:=by rw [Qz,hl]; rfl
 have hidx:=C1A hok.nd hx;have hml:(j+1)%l.length<l.length:=Qq0 _ (by omega);refine ⟨hm.2.2,?_,hm.1⟩;unfold nextR A8r;rw [hm.2.2,Int.toNat_natCast,hgl,show ((x.toNat:Nat):Int)=x by omega,hidx,Qz,Qq hml]; rfl
theorem B2g {ar:List (List Int)} {i:Nat} {l:List Int} (hl:ar[i]? =some l):(ar.take (i+1)).flatten=(ar.take i).flatten++l:=by
 obtain ⟨h1,h2⟩:=Qx.1 hl;rw [XX h1,List.flatten_append,h2]; simp
theorem C0Y {ar:List (List Int)} (hn:ar.flatten.Nodup) {i:Nat} {l:List Int} (hl:ar[i]? =some l) {j:Nat} {x:Int} (hx:l[j]? =some x):x∉(ar.take i).flatten++l.take j:=by
 have hpre:((ar.take i).flatten++l).Sublist ar.flatten:=by
  rw [<-B2g hl];conv=>rhs; rw [<-Wy (i+1) ar]
  rw [List.flatten_append];exact List.sublist_append_left _ _
 obtain ⟨h1,h2⟩:=Qx.1 hx;have hts:(ar.take i).flatten++l.take (j+1)=(ar.take i).flatten++l.take j++[l[j]]:=by rw [XX h1,Zj]
 have hsub:((ar.take i).flatten++l.take j++[l[j]]).Sublist ar.flatten:=by
  rw [<-hts];exact List.Sublist.trans (List.Sublist.append_left (List.take_sublist _ _) _) hpre
 have hnd2:=List.Nodup.sublist hsub hn;rw [h2] at hnd2;intro h;exact (JZ.1 hnd2).2.2 x h x (by simp) rfl
def tourL (r:R) (t:List Int) (k:Nat):List Int:=(List.range k).map fun i=>((tourN r t i:Nat):Int)
theorem B8S (r:R) (t:List Int) (k:Nat):(tourL r t k).length=k:=by simp [tourL]
theorem B6b (r:R) (t:List Int) (k:Nat):tourL r t (k+1)=tourL r t k++[((tourN r t k:Nat):Int)]:=by unfold tourL; rw [Ww,WY]; rfl
structure TourS (r:R) (t:List Int):Prop where
 lt: ∀k,k<2*(endsL r.es).length->tourN r t k<2*(endsL r.es).length
 new: ∀k,k<2*(endsL r.es).length->((tourN r t k:Nat):Int)∉tourL r t k
 step: ∀k,k<2*(endsL r.es).length->((tourN r t (k+1):Nat):Int)=nextR (endsL r.es) r.ar (if ((tourN r t k / 2:Nat):Int)∈t then oppH (tourN r t k) else tourN r t k)
 bk: ∀k,k<2*(endsL r.es).length->(tourN r t (k+1)=beginR r↔ ¬k+1<2*(endsL r.es).length)
theorem RTree.tourS {r:R} {t:List Int} (h:RTree r t) (hE:(endsL r.es).length≠0):TourS r t:=by
 obtain ⟨p,hP⟩:=h.tour hE;have hr:=h.ok;refine ⟨fun k hk=>hP.pl k,fun k hk hm=> ?_,fun k hk=> ?_,fun k hk=> ?_⟩
 ·obtain ⟨i,hi,e⟩:=Xq.1 hm;have hi:=XQ.1 hi;have h1:=hP.back i (by omega);have h2:=hP.back k hk;have e':it (A8z (sR (endsL r.es) r.ar) (A8N t)) i (beginR r)=it (A8z (sR (endsL r.es) r.ar) (A8N t)) k (beginR r):=by
   have:((tourN r t i:Nat):Int)=(tourN r t k:Nat):=e;show tourN r t i=tourN r t k;omega
  rw [e',h2] at h1; omega
 ·show ((A8z (sR (endsL r.es) r.ar) (A8N t) (tourN r t k):Nat):Int)=_;have hx:tourN r t k<2*(endsL r.es).length:=hP.pl k;unfold A8z A8N;by_cases hm:((tourN r t k / 2:Nat):Int)∈t
  ·rw [if_pos (decide_eq_true hm),if_pos hm];have:=(hr.next (B7B hx)).1;unfold sR; omega
  ·rw [if_neg (by simpa using hm),if_neg hm];have:=(hr.next hx).1;unfold sR; omega
 ·constructor
  ·intro e hc;have h1:=hP.back (k+1) hc;have h2:=hP.back 0 (by omega);have e':it (A8z (sR (endsL r.es) r.ar) (A8N t)) (k+1) (beginR r)=it (A8z (sR (endsL r.es) r.ar) (A8N t)) 0 (beginR r):=e;rw [e',h2] at h1; omega
  ·intro hc;have:k+1=2*(endsL r.es).length:=by omega
   unfold tourN; rw [this,hP.per]
theorem B4A (r:R) (t:List Int) (hs:RSm r) (h:RTree r t) (htl:t.length<2^40):AIter Tryz.prog 99 [.rptr [.int .i64 r.n,.slice (A0f r.es),.slice (A0x r.ar)],.rptr [.slice (A0o t)]] (A9a r t):=by
 have hr:=h.ok;obtain ⟨l0,q1,q2,q3,q4⟩:=C5p hr;have hlenI:=A6p r t;have hgetI:=fun k (hk:k<2*(endsL r.es).length)=>B2f (t:=t) hk;have e0:=A0X q1;have hal:0<r.ar.length:=(Qx.1 q1).1;have halI:(0:Int)<(r.ar.length:Int):=by omega
 have hrow:=fun i l j x hl hx=>B8R hr (i:=i) (l:=l) (j:=j) (x:=x) hl hx;have hnew:=fun i l j x hl hx=>C0Y (B49 hr).1 (i:=i) (l:=l) (j:=j) (x:=x) hl hx;have hmem:=(B49 hr).2;have hLl:=hs.l;have hA:=hs.ar;have hlen:(endsL r.es).length≤2000:=A26 (g:=r.g) hs.es hr.c;by_cases hE:(endsL r.es).length=0
 ·have hl0:=q3.2 hE;subst hl0;generalize A9a r t=xs at*;refine AIter.of_body Tryz.func99 rfl (by kernel_rfl) rfl (fun l J Jx hJ hJx hY=> ?_);simp only [entry,Tryz.ntmps99,ofT,A2G,A03,Xy,Zx,List.length_cons,List.length_nil,Nat.reduceAdd,Nat.reduceSub,List.replicate_succ,List.replicate_zero,List.cons_append,List.nil_append];have hz0:(((A0o ([]:List Int)).length:Nat):Int)=0:=rfl;refine zR (zc @e0 (zc @halI (zc @A0q (zc @hz0 Qw8)))) Qw8 Qw8 ?_;exact ⟨Qw6,_,.inl (by rw [hlenI,hE])⟩
 ·have hl0:l0≠[]:=fun e=>hE (q3.1 e);have hb0:=q4 hl0;have hb:((beginR r:Nat):Int)=l0.getD 0 0:=by unfold beginR; rw [q2]; omega
  have e00:l0[0]? =some ((beginR r:Nat):Int):=by
   rw [hb,Qz,Qq (Wj.2 hl0)]; rfl
  have e01:=A0w e00;have hl0I: ¬((l0.length:Int)=0):=by have:=Wj.2 hl0; omega
  have hl0J:(0:Int)<(l0.length:Int):=by omega
  have hS:=h.tourS hE;have hst:=hS.step;have hlt2:=hS.lt;have hbk:=hS.bk;have ht0:tourN r t 0=beginR r:=rfl;have hgR: ∀x:Nat,x<2*(endsL r.es).length->((gR (endsL r.es) x:Nat):Int)=atL (endsL r.es) x:=fun x hx=>by
   have:=A1D hr.c hx;unfold gR; omega
  generalize A9a r t=xs at*;generalize tourN r t=tn at*;generalize beginR r=b at*;clear hs hr h hS q2 q3 q4 hb;obtain ⟨n,es,ar⟩:=r;simp only at*;generalize endsL es=L at*;have hS0:(ar.take 0).flatten=[]:=rfl;refine AIter.of_body Tryz.func99 rfl (by kernel_rfl) rfl (fun l J Jx hJ hJx hY=> ?_);simp only [entry,Tryz.ntmps99,ofT,A2G,A03,Xy,Zx,List.length_cons,List.length_nil,Nat.reduceAdd,Nat.reduceSub,List.replicate_succ,List.replicate_zero,List.cons_append,List.nil_append];refine zR (zc @e0 (zc @halI (zc @A0q (zc @A0e (zc @hl0I Qw8))))) Qw8 Qw8 ?_;refine AWp.loopS (α:=Nat) 78 (fun i=>[(0,.c (.yld l)),(1,.c (.rptr [.int .i64 n,.slice (A0f es),.slice (A0x ar)])),(2,.c (.rptr [.slice (A0o t)])),(4,.c (.map 1)),(5,.c (.map 2)),(22,.c (.slice (A0x ar) .none)),(23,.c (.int .i64 (ar.length:Int))),(24,.c (.int .i64 (i:Int)))]) (fun i=>[.ghost (J 0),.map (mMI (fun x=>atL L x.toNat) (ar.take i).flatten),.map (mMI (fun x=>nextR L ar x.toNat) (ar.take i).flatten)]) (fun i=>i≤ar.length) (fun i=>ar.length-i) (0) (hk:=Weak.headL 3 78 [0,1,2,4,5,22,23,24] zW) (h0:=?_) (round:=fun i hI=>?_)
  ·exact Xj _
  ·have hi:i≤ar.length:=hI;clear hI;by_cases hlt:i<ar.length
   ·have hltI:(i:Int)<(ar.length:Int):=by omega
    have g0:=Qq hlt;have g1:=A0X g0;have hll:=hLl _ (Xv hlt);have hft:=B2g g0;have hrow2:=fun j x=>hrow i _ j x g0;have hnew2:=fun j x=>hnew i _ j x g0;generalize ar[i]=lv at*;refine zR (zc @hltI (zc @g1 (zc @A0q (zc @A0e Qw8)))) Qw8 Qw8 ?_;refine AWp.loopS (α:=Nat) 78 (fun j=>[(0,.c (.yld l)),(1,.c (.rptr [.int .i64 n,.slice (A0f es),.slice (A0x ar)])),(2,.c (.rptr [.slice (A0o t)])),(4,.c (.map 1)),(5,.c (.map 2)),(6,.c (.int .i64 (i:Int))),(7,.c (.slice (A0o lv) .none)),(22,.c (.slice (A0x ar) .none)),(23,.c (.int .i64 (ar.length:Int))),(24,.c (.int .i64 (i:Int))),(29,.c (.slice (A0o lv) .none)),(30,.c (.int .i64 (lv.length:Int))),(31,.c (.int .i64 (j:Int)))]) (fun j=>[.ghost (J 0),.map (mMI (fun x=>atL L x.toNat) ((ar.take i).flatten++lv.take j)),.map (mMI (fun x=>nextR L ar x.toNat) ((ar.take i).flatten++lv.take j))]) (fun j=>j≤lv.length) (fun j=>lv.length-j) (0) (hk:=Weak.headL 3 78 [0,1,2,4,5,6,7,22,23,24,29,30,31] zW) (h0:=?_) (round:=fun j hI=>?_)
    ·exact Xj _
    ·have hj:j≤lv.length:=hI;clear hI;by_cases hjl:j<lv.length
     ·have hjI:(j:Int)<(lv.length:Int):=by omega
      have f0:=Qq hjl;have f1:=A0w f0;obtain ⟨r1,r2,r3⟩:=hrow2 j _ f0;have r4:=hnew2 j _ f0;have f2:=A0w r2;have hts:(ar.take i).flatten++lv.take (j+1)=(ar.take i).flatten++lv.take j++[lv[j]]:=by rw [XX hjl,Zj]
      have hml:(j+1)%lv.length<lv.length:=Qq0 _ (by omega);have hmlI:(((j+1)%lv.length:Nat):Int)<(lv.length:Int):=by omega
      have htm:=C4V j lv.length;have hp1:=B8Q (f:=fun x=>atL L x.toNat) r4 r1.symm;have hp2:=B8Q (f:=fun x=>nextR L ar x.toNat) r4 rfl;rw [<-hts] at hp1 hp2;generalize lv[j]=x at*;generalize hS2:(ar.take i).flatten++lv.take (j+1)=S2 at*;generalize (ar.take i).flatten++lv.take j=S at*;generalize (j+1)%lv.length=q at*
      repeat' (first|((first|(refine zT ?_;intro K' hK')|(refine zG ?_ ?_<;>(try refine zH ?_)<;>intro hguard<;>(try exact zX)<;>try intro K' hK'))<;>((try simp+contextual only [go_sem,hjI,f1,f2,A0e,Int.toNat_natCast,Yz,htm,hmlI,hp1,hp2,A14,hl0I]);(repeat' first|(with_reducible refine hK' _ _ ?_;clear hK' K')|(refine ⟨_,A7p,rfl,B48,?_⟩ ; try simp+contextual only [go_sem,hjI,f1,f2,A0e,Int.toNat_natCast,Yz,htm,hmlI,hp1,hp2,A14,hl0I])|exact zY|with_reducible refine Qw7 ?_ ?_|(with_reducible intro hpath;try exact zP)|(refine hK' _ _ ?_;clear hK' K')|fail);try refine zS ?_))|(refine zE ?_;refine hK _ _ ?_;clear hK K)|(refine zN ?_;try refine zS ?_)|refine zA ?_|(refine zB ?_;intro K hK)|(refine zC ?_ ?_<;>(try refine zH ?_)<;>intro hcond<;>try exact zX)|fail)
      refine ⟨j+1,Weak.headF 3 78 [0,1,2,4,5,6,7,22,23,24,29,30,31] (zc @hS2 Qw8) zW,?_,?_⟩
      ·exact hjl
      ·omega
     ·have ej:j=lv.length:=by omega
      have hnl: ¬((j:Int)<(lv.length:Int)):=by omega
      rw [ej,Zw,<-hft];rw [ej] at hnl;generalize hS2:(ar.take (i+1)).flatten=S2 at*;refine zR (zc @hnl Qw8) Qw8 Qw8 ?_;refine ⟨i+1,Weak.headF 3 78 [0,1,2,4,5,22,23,24] (zc @hS2 Qw8) zW,?_,?_⟩
      ·exact hlt
      ·omega
   ·have ei:i=ar.length:=by omega
    subst ei;have hnl: ¬((ar.length:Int)<(ar.length:Int)):=by omega
    rw [Zw];generalize ar.flatten=S at*;refine zJ (stop 14) (zc @hnl (zc @e0 (zc @halI (zc @e01 (zc @hl0J (zc @A0q (zc @A0e Qw8))))))) Qw8 Qw8 Qw8 ?_;rw [<-ht0];have hSm: ∀x:Nat,x<2*L.length->((x:Nat):Int)∈S:=fun x hx=>(hmem _).2 ⟨by omega,by omega⟩;refine AWp.loopS (α:=Nat) 78 (fun k=>[(0,.c (.yld l)),(1,.c (.rptr [.int .i64 n,.slice (A0f es),.slice (A0x ar)])),(2,.c (.rptr [.slice (A0o t)])),(4,.c (.map 1)),(5,.c (.map 2)),(10,.c (.int .i64 (tn 0:Nat))),(11,.c (.int .i64 (tn k:Nat))),(12,.c (.bool (decide (k=0)||decide (k<2*L.length))))]) (fun k=>[.ghost (J k),.map (mMI (fun x=>atL L x.toNat) S),.map (mMI (fun x=>nextR L ar x.toNat) S)]) (fun k=>k≤2*L.length) (fun k=>2*L.length-k) (0) (hk:=Weak.headL 3 78 [0,1,2,4,5,10,11,12] zW) (h0:=?_) (round:=fun k hI=>?_)
    ·exact Xj _
    ·have hk:k≤2*L.length:=hI;clear hI;by_cases hlt:k<2*L.length
     ·have hx:=hlt2 k hlt;have hgk:=hgetI k hlt;rw [hgR _ hx] at hgk;have hdec:(decide (k=0)||decide (k<2*L.length))=true:=by simp [hlt]
      rw [hdec];have v1:=B0K (fun x=>atL L x.toNat) (hSm _ hx) (.c (.int .i64 0));rw [Int.toNat_natCast] at v1;have c2:=A53 t ((tn k / 2:Nat):Int) htl;have hd:(((tn k:Nat):Int)).tdiv 2=((tn k / 2:Nat):Int):=rfl;have hxo:B4R .xor .i64 ((tn k:Nat):Int) 1=((oppH (tn k):Nat):Int):=C0G _ (by omega);have hnx:=hst k hlt;have hmore:=hbk k hlt;have hb:(!decide (((tn (k+1):Nat):Int)=((tn 0:Nat):Int)))=(decide (k+1=0)||decide (k+1<2*L.length)):=by
       rw [<-ht0] at hmore;by_cases hc:k+1<2*L.length
       ·rw [decide_eq_true hc,decide_eq_false (fun e=>hmore.1 (by omega) hc)]; simp
       ·rw [decide_eq_false hc,decide_eq_true (by have:=hmore.2 hc; omega)]; simp
      repeat' (first|((with_reducible refine AWp.seq (AWp.of_reg (id:=16) (AReg.pre 5 (fun K hK=>?_))));simp only [List.take_succ_cons,List.take_zero])|((with_reducible refine AWp.of_reg (id:=16) (AReg.pre 5 (fun K hK=>?_)));simp only [List.take_succ_cons,List.take_zero])|((first|(refine zT ?_;intro K' hK')|(refine zG ?_ ?_<;>(try refine zH ?_)<;>intro hguard<;>(try exact zX)<;>try intro K' hK'))<;>((try simp+contextual only [go_sem,v1,A14]);(repeat' first|(with_reducible refine hK' _ _ ?_;clear hK' K')|(refine ⟨_,A7p,rfl,B48,?_⟩ ; try simp+contextual only [go_sem,v1,A14])|exact zY|with_reducible refine Qw7 ?_ ?_|(with_reducible intro hpath;try exact zP)|(refine hK' _ _ ?_;clear hK' K')|fail);try refine zS ?_))|(refine zE ?_;refine hK _ _ ?_;clear hK K)|(refine zN ?_;try refine zS ?_)|refine zA ?_|(refine zB ?_;intro K hK)|(refine zC ?_ ?_<;>(try refine zH ?_)<;>intro hcond<;>try exact zX)|fail)
      simp only [Zk,ZJ];refine AReg.yield rfl rfl rfl (by rfl) (by with_unfolding_all rfl) (by simp [okBlk]) (hY _ _ hgk) (hJ _) hJx ?_ ?_<;>(try refine zS ?_)<;>refine AReg.rest (fun K hK=> ?_)
      ·
       by_cases hm:((tn k / 2:Nat):Int)∈t
       ·rw [decide_eq_true hm] at c2;rw [if_pos hm] at hnx;have v2:=B0K (fun x=>nextR L ar x.toNat) (hSm _ (B7B hx)) (.c (.int .i64 0));rw [Int.toNat_natCast,<-hnx] at v2
        repeat' (first|((first|(refine zT ?_;intro K' hK')|(refine zG ?_ ?_<;>(try refine zH ?_)<;>intro hguard<;>(try exact zX)<;>try intro K' hK'))<;>((try simp+contextual only [go_sem,hd,hxo,v2,A14]);(repeat' first|(with_reducible refine hK' _ _ ?_;clear hK' K')|(with_reducible refine zK c2 ?_;try simp+contextual only [go_sem,hd,hxo,v2,A14])|(refine ⟨_,A7p,rfl,B48,?_⟩ ; try simp+contextual only [go_sem,hd,hxo,v2,A14])|exact zY|with_reducible refine Qw7 ?_ ?_|(with_reducible intro hpath;try exact zP)|(refine hK' _ _ ?_;clear hK' K')|fail);try refine zS ?_))|(refine zE ?_;refine hK _ _ ?_;clear hK K)|(refine zN ?_;try refine zS ?_)|refine zA ?_|(refine zB ?_;intro K hK)|(refine zC ?_ ?_<;>(try refine zH ?_)<;>intro hcond<;>try exact zX)|fail)
        rw [hb];refine ⟨k+1,Weak.headN 3 78 [0,1,2,4,5,10,11,12] zW,?_,?_⟩
        ·exact hlt
        ·omega
       ·rw [decide_eq_false hm] at c2;rw [if_neg hm] at hnx;have v2:=B0K (fun x=>nextR L ar x.toNat) (hSm _ hx) (.c (.int .i64 0));rw [Int.toNat_natCast,<-hnx] at v2
        repeat' (first|((first|(refine zT ?_;intro K' hK')|(refine zG ?_ ?_<;>(try refine zH ?_)<;>intro hguard<;>(try exact zX)<;>try intro K' hK'))<;>((try simp+contextual only [go_sem,hd,v2,A14]);(repeat' first|(with_reducible refine hK' _ _ ?_;clear hK' K')|(with_reducible refine zK c2 ?_;try simp+contextual only [go_sem,hd,v2,A14])|(refine ⟨_,A7p,rfl,B48,?_⟩ ; try simp+contextual only [go_sem,hd,v2,A14])|exact zY|with_reducible refine Qw7 ?_ ?_|(with_reducible intro hpath;try exact zP)|(refine hK' _ _ ?_;clear hK' K')|fail);try refine zS ?_))|(refine zE ?_;refine hK _ _ ?_;clear hK K)|(refine zN ?_;try refine zS ?_)|refine zA ?_|(refine zB ?_;intro K hK)|(refine zC ?_ ?_<;>(try refine zH ?_)<;>intro hcond<;>try exact zX)|fail)
        rw [hb];refine ⟨k+1,Weak.headN 3 78 [0,1,2,4,5,10,11,12] zW,?_,?_⟩
        ·exact hlt
        ·omega
      ·
       repeat' (first|((first|(refine zT ?_;intro K' hK')|(refine zG ?_ ?_<;>(try refine zH ?_)<;>intro hguard<;>(try exact zX)<;>try intro K' hK'))<;>((try simp+contextual only [go_sem]);(repeat' first|(with_reducible refine hK' _ _ ?_;clear hK' K')|exact zY|with_reducible refine Qw7 ?_ ?_|(with_reducible intro hpath;try exact zP)|(refine hK' _ _ ?_;clear hK' K')|fail);try refine zS ?_))|(refine zE ?_;refine hK _ _ ?_;clear hK K)|(refine zN ?_;try refine zS ?_)|refine zA ?_|(refine zB ?_;intro K hK)|(refine zC ?_ ?_<;>(try refine zH ?_)<;>intro hcond<;>try exact zX)|fail)
       exact ⟨Qw6,_,.inr rfl⟩
     ·have ek:k=2*L.length:=by omega
      have hdec:(decide (k=0)||decide (k<2*L.length))=false:=by simp; omega
      rw [hdec];refine zR Qw8 Qw8 Qw8 ?_;exact ⟨Qw6,_,.inl (by rw [hlenI,ek])⟩
noncomputable def B2w (r:R) (t:List Int):Int:=if ribE r≠0 then ribE r else A7r r.g t
theorem C0Z {n:Int}: ∀{p:Option Int} {l:List Int},A4h n p l=0-> ∀x,x∈l->0≤x∧x<n:=fun h=>A6N h
theorem B0L {r:R} {t:List Int} (h:B2w r t=0):RTree r t∧((t.length:Int)=r.n-1):=by
 unfold B2w at h;by_cases h1:ribE r≠0
 ·rw [if_pos h1] at h; exact absurd h h1
 ·rw [if_neg h1] at h;have hr:=B7Q (show ribE r=0 by omega);unfold A7r at h;by_cases h2:A0s r.g≠0
  ·rw [if_pos h2] at h; exact absurd h h2
  ·rw [if_neg h2] at h;by_cases h3:A4h (endsL r.g.es).length none t≠0
   ·rw [if_pos h3] at h; exact absurd h h3
   ·rw [if_neg h3] at h;by_cases h4:(t.length:Int)≠r.g.n-1
    ·rw [if_pos h4] at h; omega
    ·rw [if_neg h4] at h;have h5:treeB r.g.n.toNat (endsL r.g.es) t=true:=by
      cases q:treeB r.g.n.toNat (endsL r.g.es) t with
      | true=>rfl
      | false=>rw [q] at h; simp at h
     exact ⟨⟨hr,C0Z (p:=none) (show A4h ((endsL r.g.es).length:Int) none t=0 by omega),h5⟩,by show _=r.g.n-1; omega⟩
theorem A8H (r:R) (t:List Int) (hs:RSm r) (htl:t.length<2^40):ACall Tryz.prog 52 [tR r,A0n t] (A0m (B2w r t)):=by
 have hC:=B1Y r hs;have hT:=B8u r.g t hs.es htl;unfold B2w;obtain ⟨n,es,ar⟩:=r;change ACall _ _ [tG ⟨n,es⟩,_] _ at hT;by_cases h:ribE ⟨n,es,ar⟩=0
 ·rw [if_neg (by omega)];rw [h] at hC;refine ACall.of_body Tryz.func52 rfl (by kernel_rfl) ?_;simp only [entry,Tryz.ntmps52,tR];refine zU ?_;refine zR Qw8 (zc hC (zc hT Qw8)) Qw8 ?_;simp [A0z,A0y,Blk.cells,ty,Tryz.results52,A0t,A0u,toT,A0d,A0b,A0c,A0a,A0m]
 ·rw [if_pos h];generalize ribE ⟨n,es,ar⟩=e at*;refine ACall.of_body Tryz.func52 rfl (by kernel_rfl) ?_;simp only [entry,Tryz.ntmps52,tR];refine zU ?_;refine zR (zc @h Qw8) (zc hC Qw8) Qw8 ?_;simp [A0z,A0y,Blk.cells,ty,Tryz.results52,A0t,A0u,toT,A0d,A0b,A0c,A0a,A0m]
theorem B2h {r:R} {t:List Int} {k:Nat} {ts:List TVal} (h:(A9a r t)[k]? =some ts):k<2*(endsL r.es).length∧ts=[A0m (tourN r t k:Nat),A0m (gR (endsL r.es) (tourN r t k):Nat)]:=by
 have hk:=(Qx.1 h).1;rw [A6p] at hk;rw [B2f hk] at h;exact ⟨hk,(VY h).symm⟩
theorem B2i (r:R) (t:List Int):ACall Tryz.prog 53 [tR r,A0n t] (.t (.fn 99 [.rptr [.int .i64 r.n,.slice (A0f r.es),.slice (A0x r.ar)],.rptr [.slice (A0o t)]])):=by
 obtain ⟨n,es,ar⟩:=r;refine ACall.of_body Tryz.func53 rfl (by kernel_rfl) ?_;simp only [entry,Tryz.ntmps53,tR,A0n];refine zU ?_;refine zR Qw8 Qw8 Qw8 ?_;simp [A0z,A0y,Blk.cells,ty,Tryz.results53,A0t,A0u,toT,A0d,A0b,A0c,A0a]
theorem B8T (r:R) (t:List Int) (hs:RSm r) (htl:t.length<2^40):ACall Tryz.prog 12 [tR r,A0n t] (.tup [A0n (if B2w r t≠0 then [] else tourL r t (2*(endsL r.es).length)),A0m (B2w r t)]):=by
 have hg:=A8H r t hs htl;by_cases h0:B2w r t=0
 ·rw [if_neg (by omega),h0];rw [h0] at hg;have hT:=(B0L h0).1;have hw:=B2i r t;have hIt:=B4A r t hs hT htl;have hinv:=fun k ts h=>B2h (r:=r) (t:=t) (k:=k) (ts:=ts) h;have hsu:=B6b r t;have hll:=B8S r t;have hil:=A6p r t;have hlen:(endsL r.es).length≤2000:=A26 (g:=r.g) hs.es hT.ok.c;have hz:A0o (tourL r t 0)=[]:=rfl;clear hT h0;generalize A9a r t=xs at*;generalize tourL r t=tl at*;generalize tourN r t=tn at*;obtain ⟨n,es,ar⟩:=r;simp only at*;generalize endsL es=L at*;refine ACall.of_body Tryz.func12 rfl (by kernel_rfl) ?_;simp only [entry,Tryz.ntmps12,tR];refine zU ?_;refine zR Qw8 (zc hg (zc hw Qw8)) Qw8 ?_;refine AWp.weak (Weak.openB 1 0 1 rfl rfl (by omega)) ?_;simp only [List.set_cons_succ,List.set_cons_zero,List.length_cons,List.length_nil,Xw,Nat.reduceAdd,List.cons_append,List.nil_append];refine AWp.weak (Weak.head (m:=3) (by omega) ((fun t f=>[f,t,t,f,f,f,f,t,f,f,f,f,f,f,f,f,f,t,f,f,f,f,f,f,f]) true false) (by first | rfl | simp [mask]) (by first | rfl | simp) (by (repeat' (first | exact A0l _ | refine A0i ?_ ?_ | refine A0g ?_ ?_ | exact A0h _ | exact Qw6 | (show _<_; omega) | (intro c hc; cases hc; done) | (intro c hc; simp only [Qw,Qv,or_false] at hc; subst hc; first | exact Qw6 | (show _<_; omega)) | (intro c hc; simp only [Qw,Qv,or_false] at hc; rcases hc with rfl | rfl<;>first | exact Qw6 | (show _<_; omega))))) (by (repeat' (first | exact A0l _ | exact A0r _ | exact A0h _ | refine Qw7 ?_ ?_ | refine A0i ?_ ?_ | refine A0k ?_ ?_ | refine A0g ?_ ?_ | exact Qw6 | (show _<_; omega) | exact A0p (fun _=>Qw6) | (intro c hc; cases hc; done) | (intro c hc; simp only [Qw,Qv,or_false] at hc; subst hc; first | exact Qw6 | (show _<_; omega)) | (intro c hc; simp only [Qw,Qv,or_false] at hc; rcases hc with rfl | rfl<;>first | exact Qw6 | (show _<_; omega)))))) (AWp.rangeFunc (fun k H=>H=[.box [.int .i64 n,.slice (A0f es) .none,.slice (A0x ar) .none],.box [.slice (A0o (tl k)) (.chain 2)],.chain k 1]∧(True)) (fun _ _=>False) 3 rfl (hIt) (fun k ts hts=>by obtain ⟨_,rfl⟩:=hinv _ _ hts; rfl) (by omega) (by (repeat' (first | exact A0l _ | refine A0i ?_ ?_ | refine A0g ?_ ?_ | exact A0h _ | exact Qw6 | (show _<_; omega) | (intro c hc; cases hc; done) | (intro c hc; simp only [Qw,Qv,or_false] at hc; subst hc; first | exact Qw6 | (show _<_; omega)) | (intro c hc; simp only [Qw,Qv,or_false] at hc; rcases hc with rfl | rfl<;>first | exact Qw6 | (show _<_; omega))))) (by rintro _ _ ⟨rfl,-⟩; simp) (fun _ _ h=>h.elim) ?_ (fun l k ts H hts hI=> ?_) (fun H hI=> ?_) (fun e H h=>h.elim))
  ·exact ⟨by rw [hz]; rfl,trivial⟩
  ·obtain ⟨rfl,-⟩:=hI;obtain ⟨hk,rfl⟩:=hinv _ _ hts;have hs1:=hsu k;have hl1:=hll k;generalize hT2:tl (k+1)=T2 at*;generalize tl k=T at*;simp only [mask,A4e,List.zip_cons_cons,WQ,List.zip_nil_left,List.foldl_cons,List.foldl_nil,List.set_cons_succ,List.set_cons_zero,ofT,A2G,A03,Xy,Zx,ofT,A2G,toT,A0u,A0a,A0m,A0v,A3a,tG,A0B,A0n,A0N];refine zRc (zc @A0e (zc @A1O (zc @hl1 Qw8))) Qw8 @A1s ?_;rw [<-hs1];refine ⟨⟨_,_⟩,Weak.head2 (m:=3) (by decide) ((fun t f=>[f,f,f,f,f,f,f,f,f,f,f,f,f,f,f,f,f,f,f,f,f,f,f,f,f]) true false) rfl rfl zW,?_,?_⟩
   ·rw [hT2]; rfl
   ·trivial
  ·obtain ⟨rfl,-⟩:=hI;rw [hil];simp only [mask];refine zR Qw8 Qw8 Qw8 ?_;simp [A0z,A0y,Blk.cells,ty,Tryz.results12,A0t,A0u,toT,A0d,A0b,A0c,A0a,A0m,A0n]
 ·rw [if_pos h0];generalize B2w r t=e at*;obtain ⟨n,es,ar⟩:=r;refine ACall.of_body Tryz.func12 rfl (by kernel_rfl) ?_;simp only [entry,Tryz.ntmps12,tR];refine zU ?_;refine zR (zc @h0 Qw8) (zc hg Qw8) Qw8 ?_;simp [A0z,A0y,Blk.cells,ty,Tryz.results12,A0t,A0u,toT,A0d,A0b,A0c,A0a,A0m,A0n,A0o]
end Go.Proofs.YtdbdfkohpjefjaaGreat
