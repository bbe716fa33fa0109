/- A part of the proof. -/
import Derived.Test.YtdbdfkohpjefjaaGreatPart25
import Derived.Test.YtdbdfkohpjefjaaGreatPart26
import Derived.Test.YtdbdfkohpjefjaaGreatPart24
set_option linter.all false
set_option maxHeartbeats 4000000
set_option maxRecDepth 100000
namespace Go.Proofs.YtdbdfkohpjefjaaGreat
open Go.Sp
set_option maxHeartbeats 2000000
theorem C28 {r:R} (hr:ROk r) {x y:Nat} (hx:x<2*(endsL r.es).length) (hy:y<2*(endsL r.es).length) (hg:gR (endsL r.es) x=gR (endsL r.es) y):A3r (sR (endsL r.es) r.ar) x y:=by
 have ax:=A1y hr.c hx;have ay:=A1y hr.c hy;have hat:atL (endsL r.es) x=atL (endsL r.es) y:=by unfold gR at hg; omega
 obtain ⟨l,q1,q2,q3,q4⟩:=hr.row hx;refine C2j q3.nd (fun z hz=> ?_) q4 (q3.sup _ (A1H.2 ⟨by omega,by omega,by rw [Int.toNat_natCast]; exact hat.symm⟩));have hz2:=A1H.1 (q3.sub _ hz);rw [Int.toNat_natCast] at hz2;have hzl:z<2*(endsL r.es).length:=by omega
 have hzn:=hr.next hzl;have:nextR (endsL r.es) r.ar z=A5X l (z:Int):=by unfold nextR; rw [hz2.2.2,q2]
 unfold sR;rw [<-this]; omega
section
variable {r:R}
theorem ROk.cyc_same (hr:ROk r) {x y:Nat} (hx:x<2*(endsL r.es).length) (hy:y<2*(endsL r.es).length):A3r (sR (endsL r.es) r.ar) x y↔gR (endsL r.es) x=gR (endsL r.es) y:=by
 constructor
 ·rintro ⟨i,rfl⟩;have hem:=A7h hr;clear hy
  induction i with
  | zero=>rfl
  | succ i ih=>
   show _=gR (endsL r.es) (sR (endsL r.es) r.ar (it (sR (endsL r.es) r.ar) i x));rw [hem.keep _ (hem.perm.it_lt hx i)]; exact ih
 ·exact C28 hr hx hy
def arN (r:R) (v:Nat):List Nat:=(r.ar.getD v []).map Int.toNat
theorem A4W (hr:ROk r):B5H (endsL r.es) (gR (endsL r.es)):=(A7h hr).ends
theorem ROk.rowv (hr:ROk r) {v:Nat} (hv:v<r.n.toNat): ∃l,r.ar[v]? =some l∧r.ar.getD v []=l∧LOk l (ownL (endsL r.es) (v:Int) (2*(endsL r.es).length)):=by
 have hl:=hr.len;have hlt:v<r.ar.length:=by omega
 have e:=Qq hlt;exact ⟨_,e,by rw [Qz,e]; rfl,hr.l _ _ e⟩
theorem B4x (hr:ROk r):Arnd r.n.toNat (endsL r.es).length (gR (endsL r.es)) (arN r):=by
 refine ⟨fun v x hv=> ?_,fun v hv=> ?_⟩
 ·obtain ⟨l,h1,h2,h3⟩:=hr.rowv hv;unfold arN;rw [h2,Xq];constructor
  ·rintro ⟨y,hy,rfl⟩;have hm:=A1H.1 (h3.sub _ hy);refine ⟨by omega,?_⟩;unfold gR; rw [hm.2.2]; omega
  ·rintro ⟨hx,hg⟩;have:=A1y hr.c hx;unfold gR at hg;exact ⟨(x:Int),h3.sup _ (A1H.2 ⟨by omega,by omega,by rw [Int.toNat_natCast]; omega⟩),by omega⟩
 ·obtain ⟨l,h1,h2,h3⟩:=hr.rowv hv;unfold arN;rw [h2];refine B1D h3.nd fun x hx y hy e=> ?_;have:=(A1H.1 (h3.sub _ hx)).1;have:=(A1H.1 (h3.sub _ hy)).1;omega
theorem C3P (u v:Nat): ∀L:List (Int×Int),cJ L u v=sumR (fun f=>if isJ (L.getD f (0,0)) u v then 1 else 0) L.length:=by
 intro L;refine A3K (P:=fun L=>cJ L u v=sumR (fun f=>if isJ (L.getD f (0,0)) u v then 1 else 0) L.length) rfl (fun L p ih=> ?_) L;rw [C1n,Xv,List.length_singleton,sumR,ih];have e1:sumR (fun f=>if isJ ((L++[p]).getD f (0,0)) u v then (1:Int) else 0) L.length=sumR (fun f=>if isJ (L.getD f (0,0)) u v then 1 else 0) L.length:=A1w fun f hf=>by
  rw [Qz,Qv hf,<-Qz]
 have e2:(L++[p]).getD L.length (0,0)=p:=by rw [Qz,QJ (QQ _),Jq]; rfl
 rw [e1,e2];simp only [cJ]; omega
theorem B85 (hr:ROk r):Joins (endsL r.es).length r.n.toNat (gR (endsL r.es)) (mulE r.es):=by
 intro u v hu hv huv;have hm: ∀e,e∈r.es->0≤e.m:=fun e he=>by
  have:=(A0j.1 hr.c).2.1 e he;unfold okE at this; omega
 rw [<-C2s hm,C3P];refine A1w fun f hf=> ?_;have he:=A4W hr f hf;rw [Qz,he,Option.getD_some];generalize gR (endsL r.es) (2*f)=a;generalize gR (endsL r.es) (2*f+1)=b;by_cases c1:a=u∧b=v
 ·rw [if_pos (show isJ _ u v from ⟨by dsimp only; omega,.inl (by dsimp only; omega)⟩),if_pos c1,if_neg (by omega)]; rfl
 ·by_cases c2:a=v∧b=u
  ·rw [if_pos (show isJ _ u v from ⟨by dsimp only; omega,.inr (by dsimp only; omega)⟩),if_neg c1,if_pos c2]; rfl
  ·rw [if_neg (fun h:isJ _ u v=>by unfold isJ at h; dsimp only at h; omega),if_neg c1,if_neg c2]; rfl
theorem B86 (s:Nat->Nat) {t:List Int} (ht: ∀x,x∈t->0≤x):B9h s (t.map Int.toNat)=A86 s (A7u t):=by
 funext x;unfold B9h A86 A7u;have:x / 2∈t.map Int.toNat↔decide (((x / 2:Nat):Int)∈t)=true:=by
  rw [decide_eq_true_eq,Xq];constructor
  ·rintro ⟨y,hy,e⟩;have:=ht y hy;have:((x / 2:Nat):Int)=y:=by omega
   rw [this]; exact hy
  ·intro h;exact ⟨_,h,by omega⟩
 by_cases h:x / 2∈t.map Int.toNat
 ·rw [if_pos h,if_pos (this.1 h)]
 ·rw [if_neg h,if_neg fun q=>h (this.2 q)]
theorem A47 (hr:ROk r):0<r.n.toNat:=by have:=(A0j.1 hr.c).1; show 0<r.g.n.toNat; omega
theorem B0B (hr:ROk r):InN r.n.toNat (endsL r.es):=fun p hp=>by
 obtain ⟨k,hk⟩:=ZW.1 hp;have hkl:=(Qx.1 hk).1;have hem:=A7h hr;rw [hem.ends k hkl] at hk; injection hk with hk; subst hk;have:=hem.lt (2*k) (by omega);have:=hem.lt (2*k+1) (by omega);dsimp only; omega
theorem B87 (hr:ROk r) {t:List Int} (ht: ∀x,x∈t->0≤x∧x<((endsL r.es).length:Int)) (hb:treeB r.n.toNat (endsL r.es) t=true):A57 (pkL (endsL r.es) t)∧t.Nodup∧ ∀u v,u<r.n.toNat->v<r.n.toNat->Conn (pkL (endsL r.es) t) u v:=by
 unfold treeB at hb;obtain ⟨hl,hc⟩:=of_decide_eq_true hb;have hac:A57 (pkL (endsL r.es) t):=(A6l _ (B1Q (B0B hr) ht)).2.2 (by rw [hc,A2S]; have:=A47 hr; omega);exact ⟨hac,A9P (A4W hr) hac ht,fun u v hu hv=>A79 (A6j _ _) hc hu hv⟩
theorem C0E (hr:ROk r) {t:List Int} (ht: ∀x,x∈t->0≤x∧x<((endsL r.es).length:Int)) (hb:treeB r.n.toNat (endsL r.es) t=true) {h0:Nat} (h:h0<2*(endsL r.es).length): ∃p,TourP (2*(endsL r.es).length) (A86 (sR (endsL r.es) r.ar) (A7u t)) h0 p:=by
 obtain ⟨h1,h2,h3⟩:=B87 hr ht hb;have hem:=A7h hr;have hpk:pkN (endsL r.es) (t.map Int.toNat)=pkL (endsL r.es) t:=by
  rw [B8u,JV];congr 1;have: ∀x,x∈t->((fun e:Nat=>(e:Int))∘Int.toNat) x=x:=fun x hx=>by have:=(ht x hx).1; show ((x.toNat:Nat):Int)=x; omega
  exact (Wj this).trans (List.map_id _)
 have hnd:(t.map Int.toNat).Nodup:=B1D h2 fun x hx y hy e=>by
  have:=(ht x hx).1; have:=(ht y hy).1; omega
 obtain ⟨q1,q2⟩:=hem.set_tour (fun x y hx hy=>hr.cyc_same hx hy) hnd (fun e he=>by
  obtain ⟨x,hx,rfl⟩:=Xq.1 he
  have:=ht x hx; omega) (by rw [hpk]; exact h1) _ (QQ _)
 rw [Zk] at q1 q2;rw [B86 _ fun x hx=>(ht x hx).1] at q1 q2;refine C1U q1 h fun x hx=> ?_;exact (q2 h0 x h hx).2 (by rw [hpk]; exact h3 _ _ (hem.lt _ h) (hem.lt _ hx))
end
def mMI (f:Int->Int) (l:List Int):List (MKey×MV):=l.map fun x=>(.int x,.c (.int .i64 (f x)))
theorem B4y {f:Int->Int} {l:List Int}: ∀e,e∈mMI f l->KShape.ok .int e.1=true:=fun e h=>by
 obtain ⟨x,_,rfl⟩:=Xq.1 h;rfl
theorem B88 (f:Int->Int): ∀(l:List Int) (x:Int),x∉l->mIdx (mMI f l) (.int x)=none
 | [],x,_=>rfl
 | y::l,x,h=>by
  have h1: ¬y=x:=fun e=>h (by simp [e]);have h2:=B88 f l x (fun hm=>h (by simp [hm]));unfold mIdx at h2 ⊢;unfold mMI at h2 ⊢;simp only [Xy,Jv,h2,Option.map_none];rw [if_neg];intro e;have:(MKey.int y)= .int x:=by simpa using e
  injection this with e;exact h1 e
theorem B0C (f:Int->Int) {x:Int}: ∀{l:List Int},x∈l-> ∀z:MV,A62 (mMI f l) (.int x) z= .c (.int .i64 (f x))
 | y::l,h,z=>by
  unfold A62 mIdx mMI;rw [Xy,Jv];by_cases e:y=x
  ·subst e; simp
  ·have h2:=B0C f (List.mem_of_ne_of_mem (Ne.symm e) h) z;unfold A62 mIdx mMI at h2;have hne:(MKey.int y==MKey.int x)=false:=by simp [e]
   simp only [hne,YJ,if_false];cases hi:List.findIdx? (fun e=>e.1==MKey.int x) (List.map (fun x=>(MKey.int x,MV.c (Tree.int IntKind.i64 (f x)))) l) with
   | none=>
    rw [hi] at h2;exfalso;rw [List.findIdx?_eq_none_iff] at hi;have:=hi (MKey.int x,MV.c (Tree.int IntKind.i64 (f x))) (Xq.2 ⟨x,List.mem_of_ne_of_mem (Ne.symm e) h,rfl⟩);simp at this
   | some i=>rw [hi] at h2; simpa using h2
theorem B89 {f:Int->Int} {l:List Int} {x:Int} (h:x∉l) {y:Int} (hy:y=f x):B2z (mMI f l) (.int x) (.c (.int .i64 y))=mMI f (l++[x]):=by
 unfold B2z; rw [B88 f l x h,hy]; simp [mMI]
section
variable {r:R}
theorem B4z (hr:ROk r):r.ar.flatten.Nodup∧ ∀x,x∈r.ar.flatten↔0≤x∧x<2*((endsL r.es).length:Int):=by
 have hrow: ∀(i:Nat) l,r.ar[i]? =some l-> ∀x,x∈l↔0≤x∧x<2*((endsL r.es).length:Int)∧atL (endsL r.es) x.toNat=(i:Int):=fun i l hl x=>by
  have h:=hr.l i l hl;constructor
  ·intro hx;have:=A1H.1 (h.sub _ hx);exact ⟨this.1,by omega,this.2.2⟩
  ·rintro ⟨h1,h2,h3⟩;exact h.sup _ (A1H.2 ⟨h1,by omega,h3⟩)
 constructor
 ·rw [List.Nodup,List.pairwise_flatten];refine ⟨fun l hl=> ?_,?_⟩
  ·obtain ⟨i,hi⟩:=ZW.1 hl;exact (hr.l i l hi).nd
  ·rw [YQ];intro i j hi hj hij x hx y hy e;subst e;have h1:=(hrow i _ (Qq hi) x).1 hx;have h2:=(hrow j _ (Qq hj) x).1 hy;omega
 ·intro x;rw [List.mem_flatten];constructor
  ·rintro ⟨l,hl,hx⟩;obtain ⟨i,hi⟩:=ZW.1 hl;have:=(hrow i l hi x).1 hx;exact ⟨this.1,this.2.1⟩
  ·rintro ⟨h1,h2⟩;have ha:=A1y hr.c (show x.toNat<2*(endsL r.es).length by omega);have hlen:=hr.len;have hlt:(atL (endsL r.es) x.toNat).toNat<r.ar.length:=by omega
   have e:=Qq hlt;exact ⟨_,Qy e,(hrow _ _ e x).2 ⟨h1,h2,by omega⟩⟩
def beginR (r:R):Nat:=((r.ar.getD 0 []).getD 0 0).toNat
def tourN (r:R) (t:List Int) (k:Nat):Nat:=it (A86 (sR (endsL r.es) r.ar) (A7u t)) k (beginR r)
def A9c (r:R) (t:List Int):List (List TVal):=(List.range (2*(endsL r.es).length)).map fun k=>[A0k (tourN r t k:Nat),A0k (gR (endsL r.es) (tourN r t k):Nat)]
theorem A6p (r:R) (t:List Int):(A9c r t).length=2*(endsL r.es).length:=by simp [A9c]
theorem B1V {r:R} {t:List Int} {k:Nat} (h:k<2*(endsL r.es).length):(A9c r t)[k]? =some [A0k (tourN r t k:Nat),A0k (gR (endsL r.es) (tourN r t k):Nat)]:=by
 unfold A9c; rw [QY,Yw h]; rfl
structure RTree (r:R) (t:List Int):Prop where
 ok:ROk r
 rng: ∀x,x∈t->0≤x∧x<((endsL r.es).length:Int)
 tree:treeB r.n.toNat (endsL r.es) t=true
theorem C4D (hr:ROk r): ∃l,r.ar[0]? =some l∧r.ar.getD 0 []=l∧(l=[]↔(endsL r.es).length=0)∧(l≠[]->0≤l.getD 0 0∧l.getD 0 0<2*((endsL r.es).length:Int)):=by
 obtain ⟨l,h1,h2,h3⟩:=hr.rowv (A47 hr);refine ⟨l,h1,h2,?_,fun hne=> ?_⟩
 ·constructor
  ·intro e;refine ZJ fun hE=> ?_;subst e;have hA:=B4x hr;have h0:arN r 0=[]:=by unfold arN; rw [h2]; rfl
   have hno: ∀x,x<2*(endsL r.es).length->gR (endsL r.es) x≠0:=fun x hx e=>by
    have:=(hA.mem 0 x (A47 hr)).2 ⟨hx,e⟩;rw [h0] at this; cases this
   have hg:=(A7h hr).lt 0 (by omega);have hc:=hr.conn;have hc2:connB r.g=true:=hc;rw [A37 hr.c (n:=r.n.toNat) (by have:=(A0j.1 hr.c).1; show r.n=_; have:r.g.n=r.n:=rfl; omega),decide_eq_true_eq] at hc2;have:=A79 (A6j _ _) hc2 (A47 hr) hg;have key: ∀{a b:Nat},Conn (endsL r.g.es) a b->a=0->b=0:=fun {a b} h=>by
    induction h with
    | refl=>exact id
    | step _ hs ih=>
     rename_i b c _;intro ha;have hb:=ih ha;subst hb;exfalso;have go: ∀{c:Nat} {z:Int},(((0:Nat):Int),z)∈endsL r.es∨(z,((0:Nat):Int))∈endsL r.es->False:=fun {c z} h=>by
      rcases h with h | h
      ·obtain ⟨k,hk⟩:=ZW.1 h;have hkl:=(Qx.1 hk).1;have:=A4W hr k hkl;rw [this] at hk; injection hk with hk; injection hk with e1 _;exact hno (2*k) (by omega) (by omega)
      ·obtain ⟨k,hk⟩:=ZW.1 h;have hkl:=(Qx.1 hk).1;have:=A4W hr k hkl;rw [this] at hk; injection hk with hk; injection hk with _ e2;exact hno (2*k+1) (by omega) (by omega)
     exact go (c:=c) hs
   exact hno 0 (by omega) (key this rfl)
  ·intro e;have:l.length=0:=by
    rw [h3.len];have:ownL (endsL r.es) ((0:Nat):Int) (2*(endsL r.es).length)=[]:=by rw [e]; rfl
    rw [this]; rfl
   exact ZV.1 this
 ·obtain ⟨x,l',rfl⟩:=List.exists_cons_of_ne_nil hne;have:=A1H.1 (h3.sub x (by simp));show 0≤x∧x<_;omega
theorem C0F (hr:ROk r) (hE:(endsL r.es).length≠0):beginR r<2*(endsL r.es).length:=by
 obtain ⟨l,h1,h2,h3,h4⟩:=C4D hr;unfold beginR;rw [h2];have:=h4 fun e=>hE (h3.1 e);omega
theorem RTree.tour {t:List Int} (h:RTree r t) (hE:(endsL r.es).length≠0): ∃p,TourP (2*(endsL r.es).length) (A86 (sR (endsL r.es) r.ar) (A7u t)) (beginR r) p:=C0E h.ok h.rng h.tree (C0F h.ok hE)
end
theorem B8A {r:R} (hr:ROk r) {i:Nat} {l:List Int} (hl:r.ar[i]? =some l) {j:Nat} {x:Int} (hx:l[j]? =some x):atL (endsL r.es) x.toNat=(i:Int)∧l[(j+1)%l.length]? =some (nextR (endsL r.es) r.ar x.toNat)∧0≤x:=by
 have hok:=hr.l i l hl;have hi:=(Qx.1 hx).1;have hm:=A1H.1 (hok.sub x (Qy hx));have hgl:r.ar.getD i []=l:=by rw [Qz,hl]; rfl
 have hidx:=B7O hok.nd hx;have hml:(j+1)%l.length<l.length:=Vy _ (by omega);refine ⟨hm.2.2,?_,hm.1⟩;unfold nextR A5X;rw [hm.2.2,Int.toNat_natCast,hgl,show ((x.toNat:Nat):Int)=x by omega,hidx,Qz,Qq hml]; rfl
theorem B1W {ar:List (List Int)} {i:Nat} {l:List Int} (hl:ar[i]? =some l):(ar.take (i+1)).flatten=(ar.take i).flatten++l:=by
 obtain ⟨h1,h2⟩:=Qx.1 hl;rw [XQ h1,List.flatten_append,h2]; simp
theorem C0G {ar:List (List Int)} (hn:ar.flatten.Nodup) {i:Nat} {l:List Int} (hl:ar[i]? =some l) {j:Nat} {x:Int} (hx:l[j]? =some x):x∉(ar.take i).flatten++l.take j:=by
 have hpre:((ar.take i).flatten++l).Sublist ar.flatten:=by
  rw [<-B1W hl];conv=>rhs; rw [<-Jk (i+1) ar]
  rw [List.flatten_append];exact List.sublist_append_left _ _
 obtain ⟨h1,h2⟩:=Qx.1 hx;have hts:(ar.take i).flatten++l.take (j+1)=(ar.take i).flatten++l.take j++[l[j]]:=by rw [XQ h1,Zv]
 have hsub:((ar.take i).flatten++l.take j++[l[j]]).Sublist ar.flatten:=by
  rw [<-hts];exact List.Sublist.trans (List.Sublist.append_left (List.take_sublist _ _) _) hpre
 have hnd2:=List.Nodup.sublist hsub hn;rw [h2] at hnd2;intro h;exact (JW.1 hnd2).2.2 x h x (by simp) rfl
def tourL (r:R) (t:List Int) (k:Nat):List Int:=(List.range k).map fun i=>((tourN r t i:Nat):Int)
theorem A6q (r:R) (t:List Int) (k:Nat):(tourL r t k).length=k:=by simp [tourL]
theorem A9R (r:R) (t:List Int) (k:Nat):tourL r t (k+1)=tourL r t k++[((tourN r t k:Nat):Int)]:=by unfold tourL; rw [WZ,WW]; rfl
theorem B8B {r:R} {t:List Int} {k i:Nat} (h:i<k):(tourL r t k)[i]? =some ((tourN r t i:Nat):Int):=by
 unfold tourL; rw [QY,Yw h]; rfl
structure TourS (r:R) (t:List Int):Prop where
 lt: ∀k,k<2*(endsL r.es).length->tourN r t k<2*(endsL r.es).length
 new: ∀k,k<2*(endsL r.es).length->((tourN r t k:Nat):Int)∉tourL r t k
 step: ∀k,k<2*(endsL r.es).length->((tourN r t (k+1):Nat):Int)=nextR (endsL r.es) r.ar (if ((tourN r t k / 2:Nat):Int)∈t then oppH (tourN r t k) else tourN r t k)
 bk: ∀k,k<2*(endsL r.es).length->(tourN r t (k+1)=beginR r↔ ¬k+1<2*(endsL r.es).length)
theorem RTree.tourS {r:R} {t:List Int} (h:RTree r t) (hE:(endsL r.es).length≠0):TourS r t:=by
 obtain ⟨p,hP⟩:=h.tour hE;have hr:=h.ok;refine ⟨fun k hk=>hP.pl k,fun k hk hm=> ?_,fun k hk=> ?_,fun k hk=> ?_⟩
 ·obtain ⟨i,hi,e⟩:=Xq.1 hm;have hi:=XJ.1 hi;have h1:=hP.back i (by omega);have h2:=hP.back k hk;have e':it (A86 (sR (endsL r.es) r.ar) (A7u t)) i (beginR r)=it (A86 (sR (endsL r.es) r.ar) (A7u t)) k (beginR r):=by
   have:((tourN r t i:Nat):Int)=(tourN r t k:Nat):=e;show tourN r t i=tourN r t k;omega
  rw [e',h2] at h1; omega
 ·show ((A86 (sR (endsL r.es) r.ar) (A7u t) (tourN r t k):Nat):Int)=_;have hx:tourN r t k<2*(endsL r.es).length:=hP.pl k;unfold A86 A7u;by_cases hm:((tourN r t k / 2:Nat):Int)∈t
  ·rw [if_pos (decide_eq_true hm),if_pos hm];have:=(hr.next (B4e hx)).1;unfold sR; omega
  ·rw [if_neg (by simpa using hm),if_neg hm];have:=(hr.next hx).1;unfold sR; omega
 ·constructor
  ·intro e hc;have h1:=hP.back (k+1) hc;have h2:=hP.back 0 (by omega);have e':it (A86 (sR (endsL r.es) r.ar) (A7u t)) (k+1) (beginR r)=it (A86 (sR (endsL r.es) r.ar) (A7u t)) 0 (beginR r):=e;rw [e',h2] at h1; omega
  ·intro hc;have:k+1=2*(endsL r.es).length:=by omega
   unfold tourN; rw [this,hP.per]
theorem B8C {r:R} (hr:ROk r) (hE:(endsL r.es).length≠0): ∃l0,r.ar[0]? =some l0∧l0[0]? =some ((beginR r:Nat):Int)∧0<l0.length∧0<r.ar.length:=by
 obtain ⟨l0,q1,q2,q3,q4⟩:=C4D hr;have hl0:l0≠[]:=fun e=>hE (q3.1 e);have hb0:=q4 hl0;have hb:((beginR r:Nat):Int)=l0.getD 0 0:=by unfold beginR; rw [q2]; omega
 refine ⟨l0,q1,?_,YX.2 hl0,(Qx.1 q1).1⟩;rw [hb,Qz,Qq (YX.2 hl0)]; rfl
theorem B40 (r:R) (t:List Int) (hs:RSm r) (h:RTree r t) (htl:t.length<2^40):AIter Tryz.prog 99 [.rptr [.int .i64 r.n,.slice (A0f r.es),.slice (A07 r.ar)],.rptr [.slice (A0o t)]] (A9c r t):=by
 have hr:=h.ok;obtain ⟨l0,q1,q2,q3,q4⟩:=C4D hr;have hlenI:=A6p r t;have hgetI:=fun k (hk:k<2*(endsL r.es).length)=>B1V (t:=t) hk;have e0:=A0V q1;have hal:0<r.ar.length:=(Qx.1 q1).1;have halI:(0:Int)<(r.ar.length:Int):=by omega
 have hrow:=fun i l j x hl hx=>B8A hr (i:=i) (l:=l) (j:=j) (x:=x) hl hx;have hnew:=fun i l j x hl hx=>C0G (B4z hr).1 (i:=i) (l:=l) (j:=j) (x:=x) hl hx;have hmem:=(B4z hr).2;have hLl:=hs.l;have hA:=hs.ar;have hlen:(endsL r.es).length≤2000:=A1t (g:=r.g) hs.es hr.c;by_cases hE:(endsL r.es).length=0
 ·have hl0:=q3.2 hE;subst hl0;generalize A9c r t=xs at*;refine AIter.of_body Tryz.func99 rfl (by kernel_rfl) rfl (fun l J Jx hJ hJx hY=> ?_);simp only [entry,Tryz.ntmps99,ofT,A2A,A04,Xy,XV,List.length_cons,List.length_nil,Nat.reduceAdd,Nat.reduceSub,List.replicate_succ,List.replicate_zero,List.cons_append,List.nil_append];have hz0:(((A0o ([]:List Int)).length:Nat):Int)=0:=rfl;refine zR (zc @e0 (zc @halI (zc @A0q (zc @hz0 Qw6)))) Qw6 Qw6 ?_;exact ⟨Qw4,_,.inl (by rw [hlenI,hE])⟩
 ·have hl0:l0≠[]:=fun e=>hE (q3.1 e);have hb0:=q4 hl0;have hb:((beginR r:Nat):Int)=l0.getD 0 0:=by unfold beginR; rw [q2]; omega
  have e00:l0[0]? =some ((beginR r:Nat):Int):=by
   rw [hb,Qz,Qq (YX.2 hl0)]; rfl
  have e01:=A0t e00;have hl0I: ¬((l0.length:Int)=0):=by have:=YX.2 hl0; omega
  have hl0J:(0:Int)<(l0.length:Int):=by omega
  have hS:=h.tourS hE;have hst:=hS.step;have hlt2:=hS.lt;have hbk:=hS.bk;have ht0:tourN r t 0=beginR r:=rfl;have hgR: ∀x:Nat,x<2*(endsL r.es).length->((gR (endsL r.es) x:Nat):Int)=atL (endsL r.es) x:=fun x hx=>by
   have:=A1y hr.c hx;unfold gR; omega
  generalize A9c r t=xs at*;generalize tourN r t=tn at*;generalize beginR r=b at*;clear hs hr h hS q2 q3 q4 hb;obtain ⟨n,es,ar⟩:=r;simp only at*;generalize endsL es=L at*;have hS0:(ar.take 0).flatten=[]:=rfl;refine AIter.of_body Tryz.func99 rfl (by kernel_rfl) rfl (fun l J Jx hJ hJx hY=> ?_);simp only [entry,Tryz.ntmps99,ofT,A2A,A04,Xy,XV,List.length_cons,List.length_nil,Nat.reduceAdd,Nat.reduceSub,List.replicate_succ,List.replicate_zero,List.cons_append,List.nil_append];refine zR (zc @e0 (zc @halI (zc @A0q (zc @A0d (zc @hl0I Qw6))))) Qw6 Qw6 ?_;refine AWp.loopS (α:=Nat) 78 (fun i=>[(0,.c (.yld l)),(1,.c (.rptr [.int .i64 n,.slice (A0f es),.slice (A07 ar)])),(2,.c (.rptr [.slice (A0o t)])),(4,.c (.map 1)),(5,.c (.map 2)),(22,.c (.slice (A07 ar) .none)),(23,.c (.int .i64 (ar.length:Int))),(24,.c (.int .i64 (i:Int)))]) (fun i=>[.ghost (J 0),.map (mMI (fun x=>atL L x.toNat) (ar.take i).flatten),.map (mMI (fun x=>nextR L ar x.toNat) (ar.take i).flatten)]) (fun i=>i≤ar.length) (fun i=>ar.length-i) (0) (hk:=A0r.headL 3 78 [0,1,2,4,5,22,23,24] zW) (h0:=?_) (round:=fun i hI=>?_)
  ·exact Xj _
  ·have hi:i≤ar.length:=hI;clear hI;by_cases hlt:i<ar.length
   ·have hltI:(i:Int)<(ar.length:Int):=by omega
    have g0:=Qq hlt;have g1:=A0V g0;have hll:=hLl _ (Xw hlt);have hft:=B1W g0;have hrow2:=fun j x=>hrow i _ j x g0;have hnew2:=fun j x=>hnew i _ j x g0;generalize ar[i]=lv at*;refine zR (zc @hltI (zc @g1 (zc @A0q (zc @A0d Qw6)))) Qw6 Qw6 ?_;refine AWp.loopS (α:=Nat) 78 (fun j=>[(0,.c (.yld l)),(1,.c (.rptr [.int .i64 n,.slice (A0f es),.slice (A07 ar)])),(2,.c (.rptr [.slice (A0o t)])),(4,.c (.map 1)),(5,.c (.map 2)),(6,.c (.int .i64 (i:Int))),(7,.c (.slice (A0o lv) .none)),(22,.c (.slice (A07 ar) .none)),(23,.c (.int .i64 (ar.length:Int))),(24,.c (.int .i64 (i:Int))),(29,.c (.slice (A0o lv) .none)),(30,.c (.int .i64 (lv.length:Int))),(31,.c (.int .i64 (j:Int)))]) (fun j=>[.ghost (J 0),.map (mMI (fun x=>atL L x.toNat) ((ar.take i).flatten++lv.take j)),.map (mMI (fun x=>nextR L ar x.toNat) ((ar.take i).flatten++lv.take j))]) (fun j=>j≤lv.length) (fun j=>lv.length-j) (0) (hk:=A0r.headL 3 78 [0,1,2,4,5,6,7,22,23,24,29,30,31] zW) (h0:=?_) (round:=fun j hI=>?_)
    ·exact Xj _
    ·have hj:j≤lv.length:=hI;clear hI;by_cases hjl:j<lv.length
     ·have hjI:(j:Int)<(lv.length:Int):=by omega
      have f0:=Qq hjl;have f1:=A0t f0;obtain ⟨r1,r2,r3⟩:=hrow2 j _ f0;have r4:=hnew2 j _ f0;have f2:=A0t r2;have hts:(ar.take i).flatten++lv.take (j+1)=(ar.take i).flatten++lv.take j++[lv[j]]:=by rw [XQ hjl,Zv]
      have hml:(j+1)%lv.length<lv.length:=Vy _ (by omega);have hmlI:(((j+1)%lv.length:Nat):Int)<(lv.length:Int):=by omega
      have htm:=C3A j lv.length;have hp1:=B89 (f:=fun x=>atL L x.toNat) r4 r1.symm;have hp2:=B89 (f:=fun x=>nextR L ar x.toNat) r4 rfl;rw [<-hts] at hp1 hp2;generalize lv[j]=x at*;generalize hS2:(ar.take i).flatten++lv.take (j+1)=S2 at*;generalize (ar.take i).flatten++lv.take j=S at*;generalize (j+1)%lv.length=q at*
      repeat' (first|((first|(refine zT ?_;intro K' hK')|(refine zG ?_ ?_<;>(try refine zH ?_)<;>intro hguard<;>(try exact zX)<;>try intro K' hK'))<;>((try simp+contextual only [go_sem,hjI,f1,f2,A0d,Int.toNat_natCast,Yq,htm,hmlI,hp1,hp2,A17,hl0I]);(repeat' first|(with_reducible refine hK' _ _ ?_;clear hK' K')|(refine ⟨_,A7s,rfl,B4y,?_⟩ ; try simp+contextual only [go_sem,hjI,f1,f2,A0d,Int.toNat_natCast,Yq,htm,hmlI,hp1,hp2,A17,hl0I])|exact zY|with_reducible refine Qw5 ?_ ?_|(with_reducible intro hpath;try exact zP)|(refine hK' _ _ ?_;clear hK' K')|fail);try refine zS ?_))|(refine zE ?_;refine hK _ _ ?_;clear hK K)|(refine zN ?_;try refine zS ?_)|refine zA ?_|(refine zB ?_;intro K hK)|(refine zC ?_ ?_<;>(try refine zH ?_)<;>intro hcond<;>try exact zX)|fail)
      refine ⟨j+1,A0r.headF 3 78 [0,1,2,4,5,6,7,22,23,24,29,30,31] (zc @hS2 Qw6) zW,?_,?_⟩
      ·exact hjl
      ·omega
     ·have ej:j=lv.length:=by omega
      have hnl: ¬((j:Int)<(lv.length:Int)):=by omega
      rw [ej,Zk,<-hft];rw [ej] at hnl;generalize hS2:(ar.take (i+1)).flatten=S2 at*;refine zR (zc @hnl Qw6) Qw6 Qw6 ?_;refine ⟨i+1,A0r.headF 3 78 [0,1,2,4,5,22,23,24] (zc @hS2 Qw6) zW,?_,?_⟩
      ·exact hlt
      ·omega
   ·have ei:i=ar.length:=by omega
    subst ei;have hnl: ¬((ar.length:Int)<(ar.length:Int)):=by omega
    rw [Zk];generalize ar.flatten=S at*;refine zJ (stop 14) (zc @hnl (zc @e0 (zc @halI (zc @e01 (zc @hl0J (zc @A0q (zc @A0d Qw6))))))) Qw6 Qw6 Qw6 ?_;rw [<-ht0];have hSm: ∀x:Nat,x<2*L.length->((x:Nat):Int)∈S:=fun x hx=>(hmem _).2 ⟨by omega,by omega⟩;refine AWp.loopS (α:=Nat) 78 (fun k=>[(0,.c (.yld l)),(1,.c (.rptr [.int .i64 n,.slice (A0f es),.slice (A07 ar)])),(2,.c (.rptr [.slice (A0o t)])),(4,.c (.map 1)),(5,.c (.map 2)),(10,.c (.int .i64 (tn 0:Nat))),(11,.c (.int .i64 (tn k:Nat))),(12,.c (.bool (decide (k=0)||decide (k<2*L.length))))]) (fun k=>[.ghost (J k),.map (mMI (fun x=>atL L x.toNat) S),.map (mMI (fun x=>nextR L ar x.toNat) S)]) (fun k=>k≤2*L.length) (fun k=>2*L.length-k) (0) (hk:=A0r.headL 3 78 [0,1,2,4,5,10,11,12] zW) (h0:=?_) (round:=fun k hI=>?_)
    ·exact Xj _
    ·have hk:k≤2*L.length:=hI;clear hI;by_cases hlt:k<2*L.length
     ·have hx:=hlt2 k hlt;have hgk:=hgetI k hlt;rw [hgR _ hx] at hgk;have hdec:(decide (k=0)||decide (k<2*L.length))=true:=by simp [hlt]
      rw [hdec];have v1:=B0C (fun x=>atL L x.toNat) (hSm _ hx) (.c (.int .i64 0));rw [Int.toNat_natCast] at v1;have c2:=A5y t ((tn k / 2:Nat):Int) htl;have hd:(((tn k:Nat):Int)).tdiv 2=((tn k / 2:Nat):Int):=rfl;have hxo:B4J .xor .i64 ((tn k:Nat):Int) 1=((oppH (tn k):Nat):Int):=C02 _ (by omega);have hnx:=hst k hlt;have hmore:=hbk k hlt;have hb:(!decide (((tn (k+1):Nat):Int)=((tn 0:Nat):Int)))=(decide (k+1=0)||decide (k+1<2*L.length)):=by
       rw [<-ht0] at hmore;by_cases hc:k+1<2*L.length
       ·rw [decide_eq_true hc,decide_eq_false (fun e=>hmore.1 (by omega) hc)]; simp
       ·rw [decide_eq_false hc,decide_eq_true (by have:=hmore.2 hc; omega)]; simp
      repeat' (first|((with_reducible refine AWp.seq (AWp.of_reg (id:=16) (AReg.pre 5 (fun K hK=>?_))));simp only [List.take_succ_cons,List.take_zero])|((with_reducible refine AWp.of_reg (id:=16) (AReg.pre 5 (fun K hK=>?_)));simp only [List.take_succ_cons,List.take_zero])|((first|(refine zT ?_;intro K' hK')|(refine zG ?_ ?_<;>(try refine zH ?_)<;>intro hguard<;>(try exact zX)<;>try intro K' hK'))<;>((try simp+contextual only [go_sem,v1,A17]);(repeat' first|(with_reducible refine hK' _ _ ?_;clear hK' K')|(refine ⟨_,A7s,rfl,B4y,?_⟩ ; try simp+contextual only [go_sem,v1,A17])|exact zY|with_reducible refine Qw5 ?_ ?_|(with_reducible intro hpath;try exact zP)|(refine hK' _ _ ?_;clear hK' K')|fail);try refine zS ?_))|(refine zE ?_;refine hK _ _ ?_;clear hK K)|(refine zN ?_;try refine zS ?_)|refine zA ?_|(refine zB ?_;intro K hK)|(refine zC ?_ ?_<;>(try refine zH ?_)<;>intro hcond<;>try exact zX)|fail)
      simp only [Zx,ZY];refine AReg.yield rfl rfl rfl (by rfl) (by with_unfolding_all rfl) (by simp [okBlk]) (hY _ _ hgk) (hJ _) hJx ?_ ?_<;>(try refine zS ?_)<;>refine AReg.rest (fun K hK=> ?_)
      ·
       by_cases hm:((tn k / 2:Nat):Int)∈t
       ·rw [decide_eq_true hm] at c2;rw [if_pos hm] at hnx;have v2:=B0C (fun x=>nextR L ar x.toNat) (hSm _ (B4e hx)) (.c (.int .i64 0));rw [Int.toNat_natCast,<-hnx] at v2
        repeat' (first|((first|(refine zT ?_;intro K' hK')|(refine zG ?_ ?_<;>(try refine zH ?_)<;>intro hguard<;>(try exact zX)<;>try intro K' hK'))<;>((try simp+contextual only [go_sem,hd,hxo,v2,A17]);(repeat' first|(with_reducible refine hK' _ _ ?_;clear hK' K')|(with_reducible refine zK c2 ?_;try simp+contextual only [go_sem,hd,hxo,v2,A17])|(refine ⟨_,A7s,rfl,B4y,?_⟩ ; try simp+contextual only [go_sem,hd,hxo,v2,A17])|exact zY|with_reducible refine Qw5 ?_ ?_|(with_reducible intro hpath;try exact zP)|(refine hK' _ _ ?_;clear hK' K')|fail);try refine zS ?_))|(refine zE ?_;refine hK _ _ ?_;clear hK K)|(refine zN ?_;try refine zS ?_)|refine zA ?_|(refine zB ?_;intro K hK)|(refine zC ?_ ?_<;>(try refine zH ?_)<;>intro hcond<;>try exact zX)|fail)
        rw [hb];refine ⟨k+1,A0r.headN 3 78 [0,1,2,4,5,10,11,12] zW,?_,?_⟩
        ·exact hlt
        ·omega
       ·rw [decide_eq_false hm] at c2;rw [if_neg hm] at hnx;have v2:=B0C (fun x=>nextR L ar x.toNat) (hSm _ hx) (.c (.int .i64 0));rw [Int.toNat_natCast,<-hnx] at v2
        repeat' (first|((first|(refine zT ?_;intro K' hK')|(refine zG ?_ ?_<;>(try refine zH ?_)<;>intro hguard<;>(try exact zX)<;>try intro K' hK'))<;>((try simp+contextual only [go_sem,hd,v2,A17]);(repeat' first|(with_reducible refine hK' _ _ ?_;clear hK' K')|(with_reducible refine zK c2 ?_;try simp+contextual only [go_sem,hd,v2,A17])|(refine ⟨_,A7s,rfl,B4y,?_⟩ ; try simp+contextual only [go_sem,hd,v2,A17])|exact zY|with_reducible refine Qw5 ?_ ?_|(with_reducible intro hpath;try exact zP)|(refine hK' _ _ ?_;clear hK' K')|fail);try refine zS ?_))|(refine zE ?_;refine hK _ _ ?_;clear hK K)|(refine zN ?_;try refine zS ?_)|refine zA ?_|(refine zB ?_;intro K hK)|(refine zC ?_ ?_<;>(try refine zH ?_)<;>intro hcond<;>try exact zX)|fail)
        rw [hb];refine ⟨k+1,A0r.headN 3 78 [0,1,2,4,5,10,11,12] zW,?_,?_⟩
        ·exact hlt
        ·omega
      ·
       repeat' (first|((first|(refine zT ?_;intro K' hK')|(refine zG ?_ ?_<;>(try refine zH ?_)<;>intro hguard<;>(try exact zX)<;>try intro K' hK'))<;>((try simp+contextual only [go_sem]);(repeat' first|(with_reducible refine hK' _ _ ?_;clear hK' K')|exact zY|with_reducible refine Qw5 ?_ ?_|(with_reducible intro hpath;try exact zP)|(refine hK' _ _ ?_;clear hK' K')|fail);try refine zS ?_))|(refine zE ?_;refine hK _ _ ?_;clear hK K)|(refine zN ?_;try refine zS ?_)|refine zA ?_|(refine zB ?_;intro K hK)|(refine zC ?_ ?_<;>(try refine zH ?_)<;>intro hcond<;>try exact zX)|fail)
       exact ⟨Qw4,_,.inr rfl⟩
     ·have ek:k=2*L.length:=by omega
      have hdec:(decide (k=0)||decide (k<2*L.length))=false:=by simp; omega
      rw [hdec];refine zR Qw6 Qw6 Qw6 ?_;exact ⟨Qw4,_,.inl (by rw [hlenI,ek])⟩
structure IndS (g:G) (n:Nat) (l:List Int) (R:List Bool):Prop where
 c:checkG g=0
 n':g.n=n
 r: ∀x,x∈l->0≤x∧x<n
 m: ∀v,v<n->(R.getD v false=true↔(v:Int)∈l)
section
variable {g:G} {n:Nat} {l:List Int} {R:List Bool}
end
end Go.Proofs.YtdbdfkohpjefjaaGreat
