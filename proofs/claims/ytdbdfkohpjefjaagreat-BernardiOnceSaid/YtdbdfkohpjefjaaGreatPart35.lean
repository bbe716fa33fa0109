/- A part of the proof. -/
import Derived.Test.YtdbdfkohpjefjaaGreatPart30
import Derived.Test.YtdbdfkohpjefjaaGreatPart31
import Derived.Test.YtdbdfkohpjefjaaGreatPart29
import Derived.Test.YtdbdfkohpjefjaaGreatPart32
set_option linter.all false
set_option maxHeartbeats 4000000
set_option maxRecDepth 100000
namespace Go.Proofs.YtdbdfkohpjefjaaGreat
open Go.Sp
theorem C4f {r:R} (hr:ROk r) {x y:Nat} (hx:x<2*(endsL r.es).length) (hy:y<2*(endsL r.es).length) (hg:gR (endsL r.es) x=gR (endsL r.es) y):A3C (sR (endsL r.es) r.ar) x y:=by
 have ax:=A1I hr.c hx;have ay:=A1I hr.c hy;have hat:atL (endsL r.es) x=atL (endsL r.es) y:=by unfold gR at hg; omega
 obtain ⟨l,q1,q2,q3,q4⟩:=hr.row hx;refine C3F q3.nd (fun z hz=> ?_) q4 (q3.sup _ (A1J.2 ⟨by omega,by omega,by rw [Int.toNat_natCast]; exact hat.symm⟩));have hz2:=A1J.1 (q3.sub _ hz);rw [Int.toNat_natCast] at hz2;have hzl:z<2*(endsL r.es).length:=by omega
 have hzn:=hr.next hzl;have:nextR (endsL r.es) r.ar z=A8E l (z:Int):=by unfold nextR; rw [hz2.2.2,q2]
 unfold sR;rw [<-this]; omega
section
variable {r:R}
theorem ROk.cyc_same (hr:ROk r) {x y:Nat} (hx:x<2*(endsL r.es).length) (hy:y<2*(endsL r.es).length):A3C (sR (endsL r.es) r.ar) x y↔gR (endsL r.es) x=gR (endsL r.es) y:=by
 constructor
 ·rintro ⟨i,rfl⟩;have hem:=A59 hr;clear hy
  induction i with
  | zero=>rfl
  | succ i ih=>
   show _=gR (endsL r.es) (sR (endsL r.es) r.ar (it (sR (endsL r.es) r.ar) i x));rw [hem.keep _ (hem.perm.it_lt hx i)]; exact ih
 ·exact C4f hr hx hy
def arN (r:R) (v:Nat):List Nat:=(r.ar.getD v []).map Int.toNat
theorem A4k (hr:ROk r):B2v (endsL r.es) (gR (endsL r.es)):=(A59 hr).ends
theorem ROk.rowv (hr:ROk r) {v:Nat} (hv:v<r.n.toNat): ∃l,r.ar[v]? =some l∧r.ar.getD v []=l∧LOk l (ownL (endsL r.es) (v:Int) (2*(endsL r.es).length)):=by
 have hl:=hr.len;have hlt:v<r.ar.length:=by omega
 have e:=Qq hlt;exact ⟨_,e,by rw [Qz,e]; rfl,hr.l _ _ e⟩
theorem B5n (hr:ROk r):Arnd r.n.toNat (endsL r.es).length (gR (endsL r.es)) (arN r):=by
 refine ⟨fun v x hv=> ?_,fun v hv=> ?_⟩
 ·obtain ⟨l,h1,h2,h3⟩:=hr.rowv hv;unfold arN;rw [h2,QJ];constructor
  ·rintro ⟨y,hy,rfl⟩;have hm:=A1J.1 (h3.sub _ hy);refine ⟨by omega,?_⟩;unfold gR; rw [hm.2.2]; omega
  ·rintro ⟨hx,hg⟩;have:=A1I hr.c hx;unfold gR at hg;exact ⟨(x:Int),h3.sup _ (A1J.2 ⟨by omega,by omega,by rw [Int.toNat_natCast]; omega⟩),by omega⟩
 ·obtain ⟨l,h1,h2,h3⟩:=hr.rowv hv;unfold arN;rw [h2];refine A8V h3.nd fun x hx y hy e=> ?_;have:=(A1J.1 (h3.sub _ hx)).1;have:=(A1J.1 (h3.sub _ hy)).1;omega
theorem C51 (u v:Nat): ∀L:List (Int×Int),cJ L u v=sumR (fun f=>if isJ (L.getD f (0,0)) u v then 1 else 0) L.length:=by
 intro L;refine A2H (P:=fun L=>cJ L u v=sumR (fun f=>if isJ (L.getD f (0,0)) u v then 1 else 0) L.length) rfl (fun L p ih=> ?_) L;rw [C2G,Xv,List.length_singleton,sumR,ih];have e1:sumR (fun f=>if isJ ((L++[p]).getD f (0,0)) u v then (1:Int) else 0) L.length=sumR (fun f=>if isJ (L.getD f (0,0)) u v then 1 else 0) L.length:=A0w fun f hf=>by
  rw [Qz,Qv hf,<-Qz]
 have e2:(L++[p]).getD L.length (0,0)=p:=by rw [Qz,QV (QQ _),JQ]; rfl
 rw [e1,e2];simp only [cJ]; omega
theorem B98 (hr:ROk r):Joins (endsL r.es).length r.n.toNat (gR (endsL r.es)) (mulE r.es):=by
 intro u v hu hv huv;have hm: ∀e,e∈r.es->0≤e.m:=fun e he=>by
  have:=(A0h.1 hr.c).2.1 e he;unfold okE at this; omega
 rw [<-C3M hm,C51];refine A0w fun f hf=> ?_;have he:=A4k hr f hf;rw [Qz,he,Option.getD_some];generalize gR (endsL r.es) (2*f)=a;generalize gR (endsL r.es) (2*f+1)=b;by_cases c1:a=u∧b=v
 ·rw [if_pos (show isJ _ u v from ⟨by dsimp only; omega,.inl (by dsimp only; omega)⟩),if_pos c1,if_neg (by omega)]; rfl
 ·by_cases c2:a=v∧b=u
  ·rw [if_pos (show isJ _ u v from ⟨by dsimp only; omega,.inr (by dsimp only; omega)⟩),if_neg c1,if_pos c2]; rfl
  ·rw [if_neg (fun h:isJ _ u v=>by unfold isJ at h; dsimp only at h; omega),if_neg c1,if_neg c2]; rfl
theorem B99 (s:Nat->Nat) {t:List Int} (ht: ∀x,x∈t->0≤x):C0y s (t.map Int.toNat)=A7e s (A6H t):=by
 funext x;unfold C0y A7e A6H;have:x / 2∈t.map Int.toNat↔decide (((x / 2:Nat):Int)∈t)=true:=by
  rw [decide_eq_true_eq,QJ];constructor
  ·rintro ⟨y,hy,e⟩;have:=ht y hy;have:((x / 2:Nat):Int)=y:=by omega
   rw [this]; exact hy
  ·intro h;exact ⟨_,h,by omega⟩
 by_cases h:x / 2∈t.map Int.toNat
 ·rw [if_pos h,if_pos (this.1 h)]
 ·rw [if_neg h,if_neg fun q=>h (this.2 q)]
theorem A2B (hr:ROk r):0<r.n.toNat:=by have:=(A0h.1 hr.c).1; show 0<r.g.n.toNat; omega
theorem A9e (hr:ROk r):InN r.n.toNat (endsL r.es):=fun p hp=>by
 obtain ⟨k,hk⟩:=ZZ.1 hp;have hkl:=(Qx.1 hk).1;have hem:=A59 hr;rw [hem.ends k hkl] at hk; injection hk with hk; subst hk;have:=hem.lt (2*k) (by omega);have:=hem.lt (2*k+1) (by omega);dsimp only; omega
theorem B9A (hr:ROk r) {t:List Int} (ht: ∀x,x∈t->0≤x∧x<((endsL r.es).length:Int)) (hb:treeB r.n.toNat (endsL r.es) t=true):A4t (pkL (endsL r.es) t)∧t.Nodup∧ ∀u v,u<r.n.toNat->v<r.n.toNat->Conn (pkL (endsL r.es) t) u v:=by
 unfold treeB at hb;obtain ⟨hl,hc⟩:=of_decide_eq_true hb;have hac:A4t (pkL (endsL r.es) t):=(A4j _ (A9a (A9e hr) ht)).2.2 (by rw [hc,A2r]; have:=A2B hr; omega);exact ⟨hac,A7k (A4k hr) hac ht,fun u v hu hv=>A63 (A5t _ _) hc hu hv⟩
theorem B5o (hr:ROk r) {t:List Int} (ht: ∀x,x∈t->0≤x∧x<((endsL r.es).length:Int)) (hb:treeB r.n.toNat (endsL r.es) t=true) {h0:Nat} (h:h0<2*(endsL r.es).length): ∃p,TourP (2*(endsL r.es).length) (A7e (sR (endsL r.es) r.ar) (A6H t)) h0 p:=by
 obtain ⟨h1,h2,h3⟩:=B9A hr ht hb;have hem:=A59 hr;have hpk:pkN (endsL r.es) (t.map Int.toNat)=pkL (endsL r.es) t:=by
  rw [B9w,Vv];congr 1;have: ∀x,x∈t->((fun e:Nat=>(e:Int))∘Int.toNat) x=x:=fun x hx=>by have:=(ht x hx).1; show ((x.toNat:Nat):Int)=x; omega
  exact (Wk this).trans (List.map_id _)
 have hnd:(t.map Int.toNat).Nodup:=A8V h2 fun x hx y hy e=>by
  have:=(ht x hx).1; have:=(ht y hy).1; omega
 obtain ⟨q1,q2⟩:=hem.set_tour (fun x y hx hy=>hr.cyc_same hx hy) hnd (fun e he=>by
  obtain ⟨x,hx,rfl⟩:=QJ.1 he
  have:=ht x hx; omega) (by rw [hpk]; exact h1) _ (QQ _)
 rw [Zy] at q1 q2;rw [B99 _ fun x hx=>(ht x hx).1] at q1 q2;refine C32 q1 h fun x hx=> ?_;exact (q2 h0 x h hx).2 (by rw [hpk]; exact h3 _ _ (hem.lt _ h) (hem.lt _ hx))
theorem B20 (hr:ROk r) {t:List Int} (ht: ∀x,x∈t->0≤x∧x<((endsL r.es).length:Int)) (hb:treeB r.n.toNat (endsL r.es) t=true):STree (endsL r.es).length r.n.toNat (gR (endsL r.es)) (A6H t):=C1Q (A2B hr) (A4k hr) (A59 hr).lt ht hb
end
theorem B9B {d:List Int} {i:Nat} (h:i<d.length):d.getD i 0=d[i]:=by
 rw [Qz,Qq h]; rfl
def inD (k:Int):Bool:=decide (-1048576≤k∧k≤1048576)
def B4e (d:List Int) (n:Int):Int:=if n<1∨12<n then 2 else if (d.length:Int)≠n then 8 else if d.all inD=true then 0 else 2
theorem B9C {d:List Int} {n:Nat} (h:B4e d n=0):1≤n∧n≤12∧d.length=n∧bndL 1048576 d:=by
 unfold B4e at h;split at h
 ·cases h
 ·split at h
  ·cases h
  ·split at h
   ·rename_i h1 h2 h3;refine ⟨by omega,by omega,by omega,fun v=> ?_⟩;by_cases hv:v<d.length
    ·rw [B9B hv];have:=Zv.1 h3 _ (Xw hv);unfold inD at this;simpa using this
    ·rw [Qz,Xq (by omega)]; simp
   ·cases h
theorem B9D (k:Int):ACall Tryz.prog 107 [A0k k] (A0z (inD k)):=by
 unfold inD;by_cases h1: -1048576≤k
 ·by_cases h2:k≤1048576
  ·have h3:k≥ -1048576:=h1;rw [decide_eq_true ⟨h1,h2⟩];refine ACall.of_body Tryz.func107 rfl (by kernel_rfl) ?_;simp only [entry,Tryz.ntmps107,A0k];refine zU ?_;refine zR (zc @h3 (zc @h2 Qw9)) Qw9 Qw9 ?_;simp [A0y,A0x,Blk.cells,ty,Tryz.results107,A0s,A0t,toT,A0d,A0b,A0c,A0a,A0z]
  ·have h3:k≥ -1048576:=h1;rw [decide_eq_false (fun h=>h2 h.2)];refine ACall.of_body Tryz.func107 rfl (by kernel_rfl) ?_;simp only [entry,Tryz.ntmps107,A0k];refine zU ?_;refine zR (zc @h3 (zc @h2 Qw9)) Qw9 Qw9 ?_;simp [A0y,A0x,Blk.cells,ty,Tryz.results107,A0s,A0t,toT,A0d,A0b,A0c,A0a,A0z]
 ·have h3: ¬k≥ -1048576:=h1;rw [decide_eq_false (fun h=>h1 h.1)];refine ACall.of_body Tryz.func107 rfl (by kernel_rfl) ?_;simp only [entry,Tryz.ntmps107,A0k];refine zU ?_;refine zR (zc @h3 Qw9) Qw9 Qw9 ?_;simp [A0y,A0x,Blk.cells,ty,Tryz.results107,A0s,A0t,toT,A0d,A0b,A0c,A0a,A0z]
theorem B4f (n:Int):ACall Tryz.prog 106 [A0k n] (A0k (if n<1∨12<n then 2 else 0)):=by
 by_cases h1:n<1
 ·rw [if_pos (.inl h1)];refine ACall.of_body Tryz.func106 rfl (by kernel_rfl) ?_;simp only [entry,Tryz.ntmps106,A0k];refine zU ?_;refine zR (zc @h1 Qw9) Qw9 Qw9 ?_;simp [A0y,A0x,Blk.cells,ty,Tryz.results106,A0s,A0t,toT,A0d,A0b,A0c,A0a,A0k]
 ·by_cases h2:n>12
  ·rw [if_pos (.inr h2)];refine ACall.of_body Tryz.func106 rfl (by kernel_rfl) ?_;simp only [entry,Tryz.ntmps106,A0k];refine zU ?_;refine zR (zc @h1 (zc @h2 Qw9)) Qw9 Qw9 ?_;simp [A0y,A0x,Blk.cells,ty,Tryz.results106,A0s,A0t,toT,A0d,A0b,A0c,A0a,A0k]
  ·rw [if_neg (by omega)];refine ACall.of_body Tryz.func106 rfl (by kernel_rfl) ?_;simp only [entry,Tryz.ntmps106,A0k];refine zU ?_;refine zR (zc @h1 (zc @h2 Qw9)) Qw9 Qw9 ?_;simp [A0y,A0x,Blk.cells,ty,Tryz.results106,A0s,A0t,toT,A0d,A0b,A0c,A0a,A0k]
theorem C4g {d:List Int} {i:Nat} (h: ∀j,j<i->inD (d.getD j 0)=true) (hi:i=d.length):d.all inD=true:=by
 rw [Zv];intro x hx;obtain ⟨j,hj,rfl⟩:=YJ.1 hx;have:=h j (by omega);rwa [B9B hj] at this
theorem C4h {d:List Int} {i:Nat} (hi:i<d.length) (h:inD (d.getD i 0)=false): ¬d.all inD=true:=fun ha=>by
 have:=Zv.1 ha _ (Xw hi);rw [B9B hi,this] at h;cases h
theorem A9f (d:List Int) (n:Int) (hdl:d.length<2^40):ACall Tryz.prog 63 [A0m d,A0k n] (A0k (B4e d n)):=by
 have hV:=B4f n;unfold B4e;by_cases h1:n<1∨12<n
 ·rw [if_pos h1] at hV ⊢;refine ACall.of_body Tryz.func63 rfl (by kernel_rfl) ?_;simp only [entry,Tryz.ntmps63,A0m,A0k];refine zU ?_;refine zR Qw9 (zc hV Qw9) Qw9 ?_;simp [A0y,A0x,Blk.cells,ty,Tryz.results63,A0s,A0t,toT,A0d,A0b,A0c,A0a,A0k]
 rw [if_neg h1] at hV ⊢;by_cases hd:(d.length:Int)=n
 case neg=>
  rw [if_pos hd];refine ACall.of_body Tryz.func63 rfl (by kernel_rfl) ?_;simp only [entry,Tryz.ntmps63,A0m,A0k];refine zU ?_;refine zR (zc @A0e (zc @hd Qw9)) (zc hV Qw9) Qw9 ?_;simp [A0y,A0x,Blk.cells,ty,Tryz.results63,A0s,A0t,toT,A0d,A0b,A0c,A0a,A0k]
 rw [if_neg (by omega)];subst hd;refine ACall.of_body Tryz.func63 rfl (by kernel_rfl) ?_;simp only [entry,Tryz.ntmps63,A0m,A0k];refine zU ?_;refine zJ (stop 7) (zc @A0e Qw9) (zc hV Qw9) Qw9 Qw9 ?_;refine AWp.loopS (α:=Nat) 27 (fun i=>[(17,.c (.slice (A0p d) .none)),(18,.c (.int .i64 (d.length:Int))),(19,.c (.int .i64 (i:Int)))]) (fun i=>[]) (fun i=>i≤d.length∧ ∀j,j<i->inD (d.getD j 0)=true) (fun i=>d.length-i) (0) (hk:=Weak.headL 0 27 [17,18,19] zW) (h0:=?_) (round:=fun i hI=>?_)
 ·exact ⟨Xj _,fun j hj=>by omega⟩
 ·obtain ⟨hi,hpre⟩:=hI;by_cases hil:i<d.length
  ·have hiI:(i:Int)<(d.length:Int):=by omega
   have hg:=A0u (A1t (d:=d) (i:=i) hil);have hw:=B9D (d.getD i 0);cases hin:inD (d.getD i 0) with
   | false=>
    rw [if_neg (C4h hil hin)];rw [hin] at hw;clear hpre hin;generalize d.getD i 0=x at*;refine zR (zc @hiI (zc @hg (zc @A0e (zc @Xy Qw9)))) (zc hw Qw9) Qw9 ?_;simp [A0y,A0x,Blk.cells,ty,Tryz.results63,A0s,A0t,toT,A0d,A0b,A0c,A0a,A0k]
   | true=>
    have hp2: ∀j,j<i+1->inD (d.getD j 0)=true:=fun j hj=>by
     by_cases e:j=i
     ·rw [e]; exact hin
     ·exact hpre j (by omega)
    rw [hin] at hw;clear hpre hin;generalize d.getD i 0=x at*;refine zR (zc @hiI (zc @hg (zc @A0e (zc @Xy Qw9)))) (zc hw Qw9) Qw9 ?_;refine ⟨i+1,Weak.headN 0 27 [17,18,19] zW,?_,?_⟩
    ·exact ⟨hil,hp2⟩
    ·omega
  ·have hnl: ¬(i:Int)<(d.length:Int):=by omega
   rw [if_pos (C4g hpre (by omega))];refine zR (zc @hnl Qw9) Qw9 Qw9 ?_;simp [A0y,A0x,Blk.cells,ty,Tryz.results63,A0s,A0t,toT,A0d,A0b,A0c,A0a,A0k]
def mMI (f:Int->Int) (l:List Int):List (MKey×MV):=l.map fun x=>(.int x,.c (.int .i64 (f x)))
theorem B5p {f:Int->Int} {l:List Int}: ∀e,e∈mMI f l->KShape.ok .int e.1=true:=fun e h=>by
 obtain ⟨x,_,rfl⟩:=QJ.1 h;rfl
theorem B9E (f:Int->Int): ∀(l:List Int) (x:Int),x∉l->mIdx (mMI f l) (.int x)=none
 | [],x,_=>rfl
 | y::l,x,h=>by
  have h1: ¬y=x:=fun e=>h (by simp [e]);have h2:=B9E f l x (fun hm=>h (by simp [hm]));unfold mIdx at h2 ⊢;unfold mMI at h2 ⊢;simp only [Xk,JW,h2,Option.map_none];rw [if_neg];intro e;have:(MKey.int y)= .int x:=by simpa using e
  injection this with e;exact h1 e
theorem B1g (f:Int->Int) {x:Int}: ∀{l:List Int},x∈l-> ∀z:MV,A6M (mMI f l) (.int x) z= .c (.int .i64 (f x))
 | y::l,h,z=>by
  unfold A6M mIdx mMI;rw [Xk,JW];by_cases e:y=x
  ·subst e; simp
  ·have h2:=B1g f (List.mem_of_ne_of_mem (Ne.symm e) h) z;unfold A6M mIdx mMI at h2;have hne:(MKey.int y==MKey.int x)=false:=by simp [e]
   simp only [hne,YZ,if_false];cases hi:List.findIdx? (fun e=>e.1==MKey.int x) (List.map (fun x=>(MKey.int x,MV.c (Tree.int IntKind.i64 (f x)))) l) with
   | none=>
    rw [hi] at h2;exfalso;rw [List.findIdx?_eq_none_iff] at hi;have:=hi (MKey.int x,MV.c (Tree.int IntKind.i64 (f x))) (QJ.2 ⟨x,List.mem_of_ne_of_mem (Ne.symm e) h,rfl⟩);simp at this
   | some i=>rw [hi] at h2; simpa using h2
theorem B9F {f:Int->Int} {l:List Int} {x:Int} (h:x∉l) {y:Int} (hy:y=f x):B2U (mMI f l) (.int x) (.c (.int .i64 y))=mMI f (l++[x]):=by
 unfold B2U; rw [B9E f l x h,hy]; simp [mMI]
section
variable {r:R}
theorem B5q (hr:ROk r):r.ar.flatten.Nodup∧ ∀x,x∈r.ar.flatten↔0≤x∧x<2*((endsL r.es).length:Int):=by
 have hrow: ∀(i:Nat) l,r.ar[i]? =some l-> ∀x,x∈l↔0≤x∧x<2*((endsL r.es).length:Int)∧atL (endsL r.es) x.toNat=(i:Int):=fun i l hl x=>by
  have h:=hr.l i l hl;constructor
  ·intro hx;have:=A1J.1 (h.sub _ hx);exact ⟨this.1,by omega,this.2.2⟩
  ·rintro ⟨h1,h2,h3⟩;exact h.sup _ (A1J.2 ⟨h1,by omega,h3⟩)
 constructor
 ·rw [List.Nodup,List.pairwise_flatten];refine ⟨fun l hl=> ?_,?_⟩
  ·obtain ⟨i,hi⟩:=ZZ.1 hl;exact (hr.l i l hi).nd
  ·rw [Yz];intro i j hi hj hij x hx y hy e;subst e;have h1:=(hrow i _ (Qq hi) x).1 hx;have h2:=(hrow j _ (Qq hj) x).1 hy;omega
 ·intro x;rw [List.mem_flatten];constructor
  ·rintro ⟨l,hl,hx⟩;obtain ⟨i,hi⟩:=ZZ.1 hl;have:=(hrow i l hi x).1 hx;exact ⟨this.1,this.2.1⟩
  ·rintro ⟨h1,h2⟩;have ha:=A1I hr.c (show x.toNat<2*(endsL r.es).length by omega);have hlen:=hr.len;have hlt:(atL (endsL r.es) x.toNat).toNat<r.ar.length:=by omega
   have e:=Qq hlt;exact ⟨_,Qy e,(hrow _ _ e x).2 ⟨h1,h2,by omega⟩⟩
def beginR (r:R):Nat:=((r.ar.getD 0 []).getD 0 0).toNat
def tourN (r:R) (t:List Int) (k:Nat):Nat:=it (A7e (sR (endsL r.es) r.ar) (A6H t)) k (beginR r)
def A90 (r:R) (t:List Int):List (List TVal):=(List.range (2*(endsL r.es).length)).map fun k=>[A0k (tourN r t k:Nat),A0k (gR (endsL r.es) (tourN r t k):Nat)]
theorem A68 (r:R) (t:List Int):(A90 r t).length=2*(endsL r.es).length:=by simp [A90]
theorem B21 {r:R} {t:List Int} {k:Nat} (h:k<2*(endsL r.es).length):(A90 r t)[k]? =some [A0k (tourN r t k:Nat),A0k (gR (endsL r.es) (tourN r t k):Nat)]:=by
 unfold A90; rw [QY,Yv h]; rfl
structure RTree (r:R) (t:List Int):Prop where
 ok:ROk r
 rng: ∀x,x∈t->0≤x∧x<((endsL r.es).length:Int)
 tree:treeB r.n.toNat (endsL r.es) t=true
theorem C61 (hr:ROk r): ∃l,r.ar[0]? =some l∧r.ar.getD 0 []=l∧(l=[]↔(endsL r.es).length=0)∧(l≠[]->0≤l.getD 0 0∧l.getD 0 0<2*((endsL r.es).length:Int)):=by
 obtain ⟨l,h1,h2,h3⟩:=hr.rowv (A2B hr);refine ⟨l,h1,h2,?_,fun hne=> ?_⟩
 ·constructor
  ·intro e;refine XZ fun hE=> ?_;subst e;have hA:=B5n hr;have h0:arN r 0=[]:=by unfold arN; rw [h2]; rfl
   have hno: ∀x,x<2*(endsL r.es).length->gR (endsL r.es) x≠0:=fun x hx e=>by
    have:=(hA.mem 0 x (A2B hr)).2 ⟨hx,e⟩;rw [h0] at this; cases this
   have hg:=(A59 hr).lt 0 (by omega);have hc:=hr.conn;have hc2:connB r.g=true:=hc;rw [A2O hr.c (n:=r.n.toNat) (by have:=(A0h.1 hr.c).1; show r.n=_; have:r.g.n=r.n:=rfl; omega),decide_eq_true_eq] at hc2;have:=A63 (A5t _ _) hc2 (A2B hr) hg;have key: ∀{a b:Nat},Conn (endsL r.g.es) a b->a=0->b=0:=fun {a b} h=>by
    induction h with
    | refl=>exact id
    | step _ hs ih=>
     rename_i b c _;intro ha;have hb:=ih ha;subst hb;exfalso;have go: ∀{c:Nat} {z:Int},(((0:Nat):Int),z)∈endsL r.es∨(z,((0:Nat):Int))∈endsL r.es->False:=fun {c z} h=>by
      rcases h with h | h
      ·obtain ⟨k,hk⟩:=ZZ.1 h;have hkl:=(Qx.1 hk).1;have:=A4k hr k hkl;rw [this] at hk; injection hk with hk; injection hk with e1 _;exact hno (2*k) (by omega) (by omega)
      ·obtain ⟨k,hk⟩:=ZZ.1 h;have hkl:=(Qx.1 hk).1;have:=A4k hr k hkl;rw [this] at hk; injection hk with hk; injection hk with _ e2;exact hno (2*k+1) (by omega) (by omega)
     exact go (c:=c) hs
   exact hno 0 (by omega) (key this rfl)
  ·intro e;have:l.length=0:=by
    rw [h3.len];have:ownL (endsL r.es) ((0:Nat):Int) (2*(endsL r.es).length)=[]:=by rw [e]; rfl
    rw [this]; rfl
   exact Yq.1 this
 ·obtain ⟨x,l',rfl⟩:=List.exists_cons_of_ne_nil hne;have:=A1J.1 (h3.sub x (by simp));show 0≤x∧x<_;omega
theorem B5r (hr:ROk r) (hE:(endsL r.es).length≠0):beginR r<2*(endsL r.es).length:=by
 obtain ⟨l,h1,h2,h3,h4⟩:=C61 hr;unfold beginR;rw [h2];have:=h4 fun e=>hE (h3.1 e);omega
theorem RTree.tour {t:List Int} (h:RTree r t) (hE:(endsL r.es).length≠0): ∃p,TourP (2*(endsL r.es).length) (A7e (sR (endsL r.es) r.ar) (A6H t)) (beginR r) p:=B5o h.ok h.rng h.tree (B5r h.ok hE)
end
theorem B9G {r:R} (hr:ROk r) {i:Nat} {l:List Int} (hl:r.ar[i]? =some l) {j:Nat} {x:Int} (hx:l[j]? =some x):atL (endsL r.es) x.toNat=(i:Int)∧l[(j+1)%l.length]? =some (nextR (endsL r.es) r.ar x.toNat)∧0≤x:=by
 have hok:=hr.l i l hl;have hi:=(Qx.1 hx).1;have hm:=A1J.1 (hok.sub x (Qy hx));have hgl:r.ar.getD i []=l:=by rw [Qz,hl]; rfl
 have hidx:=C2F hok.nd hx;have hml:(j+1)%l.length<l.length:=VZ _ (by omega);refine ⟨hm.2.2,?_,hm.1⟩;unfold nextR A8E;rw [hm.2.2,Int.toNat_natCast,hgl,show ((x.toNat:Nat):Int)=x by omega,hidx,Qz,Qq hml]; rfl
theorem B22 {ar:List (List Int)} {i:Nat} {l:List Int} (hl:ar[i]? =some l):(ar.take (i+1)).flatten=(ar.take i).flatten++l:=by
 obtain ⟨h1,h2⟩:=Qx.1 hl;rw [XX h1,List.flatten_append,h2]; simp
theorem C1Y {ar:List (List Int)} (hn:ar.flatten.Nodup) {i:Nat} {l:List Int} (hl:ar[i]? =some l) {j:Nat} {x:Int} (hx:l[j]? =some x):x∉(ar.take i).flatten++l.take j:=by
 have hpre:((ar.take i).flatten++l).Sublist ar.flatten:=by
  rw [<-B22 hl];conv=>rhs; rw [<-WJ (i+1) ar]
  rw [List.flatten_append];exact List.sublist_append_left _ _
 obtain ⟨h1,h2⟩:=Qx.1 hx;have hts:(ar.take i).flatten++l.take (j+1)=(ar.take i).flatten++l.take j++[l[j]]:=by rw [XX h1,Zk]
 have hsub:((ar.take i).flatten++l.take j++[l[j]]).Sublist ar.flatten:=by
  rw [<-hts];exact List.Sublist.trans (List.Sublist.append_left (List.take_sublist _ _) _) hpre
 have hnd2:=List.Nodup.sublist hsub hn;rw [h2] at hnd2;intro h;exact (WX.1 hnd2).2.2 x h x (by simp) rfl
def tourL (r:R) (t:List Int) (k:Nat):List Int:=(List.range k).map fun i=>((tourN r t i:Nat):Int)
theorem B23 (r:R) (t:List Int) (k:Nat):(tourL r t k).length=k:=by simp [tourL]
theorem B6J (r:R) (t:List Int) (k:Nat):tourL r t (k+1)=tourL r t k++[((tourN r t k:Nat):Int)]:=by unfold tourL; rw [Jq,Jv]; rfl
theorem B9H {r:R} {t:List Int} {k i:Nat} (h:i<k):(tourL r t k)[i]? =some ((tourN r t i:Nat):Int):=by
 unfold tourL; rw [QY,Yv h]; rfl
structure TourS (r:R) (t:List Int):Prop where
 lt: ∀k,k<2*(endsL r.es).length->tourN r t k<2*(endsL r.es).length
 new: ∀k,k<2*(endsL r.es).length->((tourN r t k:Nat):Int)∉tourL r t k
 step: ∀k,k<2*(endsL r.es).length->((tourN r t (k+1):Nat):Int)=nextR (endsL r.es) r.ar (if ((tourN r t k / 2:Nat):Int)∈t then oppH (tourN r t k) else tourN r t k)
 bk: ∀k,k<2*(endsL r.es).length->(tourN r t (k+1)=beginR r↔ ¬k+1<2*(endsL r.es).length)
theorem RTree.tourS {r:R} {t:List Int} (h:RTree r t) (hE:(endsL r.es).length≠0):TourS r t:=by
 obtain ⟨p,hP⟩:=h.tour hE;have hr:=h.ok;refine ⟨fun k hk=>hP.pl k,fun k hk hm=> ?_,fun k hk=> ?_,fun k hk=> ?_⟩
 ·obtain ⟨i,hi,e⟩:=QJ.1 hm;have hi:=XQ.1 hi;have h1:=hP.back i (by omega);have h2:=hP.back k hk;have e':it (A7e (sR (endsL r.es) r.ar) (A6H t)) i (beginR r)=it (A7e (sR (endsL r.es) r.ar) (A6H t)) k (beginR r):=by
   have:((tourN r t i:Nat):Int)=(tourN r t k:Nat):=e;show tourN r t i=tourN r t k;omega
  rw [e',h2] at h1; omega
 ·show ((A7e (sR (endsL r.es) r.ar) (A6H t) (tourN r t k):Nat):Int)=_;have hx:tourN r t k<2*(endsL r.es).length:=hP.pl k;unfold A7e A6H;by_cases hm:((tourN r t k / 2:Nat):Int)∈t
  ·rw [if_pos (decide_eq_true hm),if_pos hm];have:=(hr.next (B0g hx)).1;unfold sR; omega
  ·rw [if_neg (by simpa using hm),if_neg hm];have:=(hr.next hx).1;unfold sR; omega
 ·constructor
  ·intro e hc;have h1:=hP.back (k+1) hc;have h2:=hP.back 0 (by omega);have e':it (A7e (sR (endsL r.es) r.ar) (A6H t)) (k+1) (beginR r)=it (A7e (sR (endsL r.es) r.ar) (A6H t)) 0 (beginR r):=e;rw [e',h2] at h1; omega
  ·intro hc;have:k+1=2*(endsL r.es).length:=by omega
   unfold tourN; rw [this,hP.per]
theorem B5s (r:R) (t:List Int) (hs:RSm r) (h:RTree r t) (htl:t.length<2^40):AIter Tryz.prog 99 [.rptr [.int .i64 r.n,.slice (A0f r.es),.slice (A00 r.ar)],.rptr [.slice (A0p t)]] (A90 r t):=by
 have hr:=h.ok;obtain ⟨l0,q1,q2,q3,q4⟩:=C61 hr;have hlenI:=A68 r t;have hgetI:=fun k (hk:k<2*(endsL r.es).length)=>B21 (t:=t) hk;have e0:=A0W q1;have hal:0<r.ar.length:=(Qx.1 q1).1;have halI:(0:Int)<(r.ar.length:Int):=by omega
 have hrow:=fun i l j x hl hx=>B9G hr (i:=i) (l:=l) (j:=j) (x:=x) hl hx;have hnew:=fun i l j x hl hx=>C1Y (B5q hr).1 (i:=i) (l:=l) (j:=j) (x:=x) hl hx;have hmem:=(B5q hr).2;have hLl:=hs.l;have hA:=hs.ar;have hlen:(endsL r.es).length≤2000:=A1B (g:=r.g) hs.es hr.c;by_cases hE:(endsL r.es).length=0
 ·have hl0:=q3.2 hE;subst hl0;generalize A90 r t=xs at*;refine AIter.of_body Tryz.func99 rfl (by kernel_rfl) rfl (fun l J Jx hJ hJx hY=> ?_);simp only [entry,Tryz.ntmps99,ofT,A2T,A04,Xk,Zj,List.length_cons,List.length_nil,Nat.reduceAdd,Nat.reduceSub,List.replicate_succ,List.replicate_zero,List.cons_append,List.nil_append];have hz0:(((A0p ([]:List Int)).length:Nat):Int)=0:=rfl;refine zR (zc @e0 (zc @halI (zc @A0o (zc @hz0 Qw9)))) Qw9 Qw9 ?_;exact ⟨Qw7,_,.inl (by rw [hlenI,hE])⟩
 ·have hl0:l0≠[]:=fun e=>hE (q3.1 e);have hb0:=q4 hl0;have hb:((beginR r:Nat):Int)=l0.getD 0 0:=by unfold beginR; rw [q2]; omega
  have e00:l0[0]? =some ((beginR r:Nat):Int):=by
   rw [hb,Qz,Qq (Ww.2 hl0)]; rfl
  have e01:=A0u e00;have hl0I: ¬((l0.length:Int)=0):=by have:=Ww.2 hl0; omega
  have hl0J:(0:Int)<(l0.length:Int):=by omega
  have hS:=h.tourS hE;have hst:=hS.step;have hlt2:=hS.lt;have hbk:=hS.bk;have ht0:tourN r t 0=beginR r:=rfl;have hgR: ∀x:Nat,x<2*(endsL r.es).length->((gR (endsL r.es) x:Nat):Int)=atL (endsL r.es) x:=fun x hx=>by
   have:=A1I hr.c hx;unfold gR; omega
  generalize A90 r t=xs at*;generalize tourN r t=tn at*;generalize beginR r=b at*;clear hs hr h hS q2 q3 q4 hb;obtain ⟨n,es,ar⟩:=r;simp only at*;generalize endsL es=L at*;have hS0:(ar.take 0).flatten=[]:=rfl;refine AIter.of_body Tryz.func99 rfl (by kernel_rfl) rfl (fun l J Jx hJ hJx hY=> ?_);simp only [entry,Tryz.ntmps99,ofT,A2T,A04,Xk,Zj,List.length_cons,List.length_nil,Nat.reduceAdd,Nat.reduceSub,List.replicate_succ,List.replicate_zero,List.cons_append,List.nil_append];refine zR (zc @e0 (zc @halI (zc @A0o (zc @A0e (zc @hl0I Qw9))))) Qw9 Qw9 ?_;refine AWp.loopS (α:=Nat) 78 (fun i=>[(0,.c (.yld l)),(1,.c (.rptr [.int .i64 n,.slice (A0f es),.slice (A00 ar)])),(2,.c (.rptr [.slice (A0p t)])),(4,.c (.map 1)),(5,.c (.map 2)),(22,.c (.slice (A00 ar) .none)),(23,.c (.int .i64 (ar.length:Int))),(24,.c (.int .i64 (i:Int)))]) (fun i=>[.ghost (J 0),.map (mMI (fun x=>atL L x.toNat) (ar.take i).flatten),.map (mMI (fun x=>nextR L ar x.toNat) (ar.take i).flatten)]) (fun i=>i≤ar.length) (fun i=>ar.length-i) (0) (hk:=Weak.headL 3 78 [0,1,2,4,5,22,23,24] zW) (h0:=?_) (round:=fun i hI=>?_)
  ·exact Xj _
  ·have hi:i≤ar.length:=hI;clear hI;by_cases hlt:i<ar.length
   ·have hltI:(i:Int)<(ar.length:Int):=by omega
    have g0:=Qq hlt;have g1:=A0W g0;have hll:=hLl _ (Xw hlt);have hft:=B22 g0;have hrow2:=fun j x=>hrow i _ j x g0;have hnew2:=fun j x=>hnew i _ j x g0;generalize ar[i]=lv at*;refine zR (zc @hltI (zc @g1 (zc @A0o (zc @A0e Qw9)))) Qw9 Qw9 ?_;refine AWp.loopS (α:=Nat) 78 (fun j=>[(0,.c (.yld l)),(1,.c (.rptr [.int .i64 n,.slice (A0f es),.slice (A00 ar)])),(2,.c (.rptr [.slice (A0p t)])),(4,.c (.map 1)),(5,.c (.map 2)),(6,.c (.int .i64 (i:Int))),(7,.c (.slice (A0p lv) .none)),(22,.c (.slice (A00 ar) .none)),(23,.c (.int .i64 (ar.length:Int))),(24,.c (.int .i64 (i:Int))),(29,.c (.slice (A0p lv) .none)),(30,.c (.int .i64 (lv.length:Int))),(31,.c (.int .i64 (j:Int)))]) (fun j=>[.ghost (J 0),.map (mMI (fun x=>atL L x.toNat) ((ar.take i).flatten++lv.take j)),.map (mMI (fun x=>nextR L ar x.toNat) ((ar.take i).flatten++lv.take j))]) (fun j=>j≤lv.length) (fun j=>lv.length-j) (0) (hk:=Weak.headL 3 78 [0,1,2,4,5,6,7,22,23,24,29,30,31] zW) (h0:=?_) (round:=fun j hI=>?_)
    ·exact Xj _
    ·have hj:j≤lv.length:=hI;clear hI;by_cases hjl:j<lv.length
     ·have hjI:(j:Int)<(lv.length:Int):=by omega
      have f0:=Qq hjl;have f1:=A0u f0;obtain ⟨r1,r2,r3⟩:=hrow2 j _ f0;have r4:=hnew2 j _ f0;have f2:=A0u r2;have hts:(ar.take i).flatten++lv.take (j+1)=(ar.take i).flatten++lv.take j++[lv[j]]:=by rw [XX hjl,Zk]
      have hml:(j+1)%lv.length<lv.length:=VZ _ (by omega);have hmlI:(((j+1)%lv.length:Nat):Int)<(lv.length:Int):=by omega
      have htm:=C5m j lv.length;have hp1:=B9F (f:=fun x=>atL L x.toNat) r4 r1.symm;have hp2:=B9F (f:=fun x=>nextR L ar x.toNat) r4 rfl;rw [<-hts] at hp1 hp2;generalize lv[j]=x at*;generalize hS2:(ar.take i).flatten++lv.take (j+1)=S2 at*;generalize (ar.take i).flatten++lv.take j=S at*;generalize (j+1)%lv.length=q at*
      repeat' (first|((first|(refine zT ?_;intro K' hK')|(refine zG ?_ ?_<;>(try refine zH ?_)<;>intro hguard<;>(try exact zX)<;>try intro K' hK'))<;>((try simp+contextual only [go_sem,hjI,f1,f2,A0e,Int.toNat_natCast,Yj,htm,hmlI,hp1,hp2,A15,hl0I]);(repeat' first|(with_reducible refine hK' _ _ ?_;clear hK' K')|(refine ⟨_,A7A,rfl,B5p,?_⟩ ; try simp+contextual only [go_sem,hjI,f1,f2,A0e,Int.toNat_natCast,Yj,htm,hmlI,hp1,hp2,A15,hl0I])|exact zY|with_reducible refine Qw8 ?_ ?_|(with_reducible intro hpath;try exact zP)|(refine hK' _ _ ?_;clear hK' K')|fail);try refine zS ?_))|(refine zE ?_;refine hK _ _ ?_;clear hK K)|(refine zN ?_;try refine zS ?_)|refine zA ?_|(refine zB ?_;intro K hK)|(refine zC ?_ ?_<;>(try refine zH ?_)<;>intro hcond<;>try exact zX)|fail)
      refine ⟨j+1,Weak.headF 3 78 [0,1,2,4,5,6,7,22,23,24,29,30,31] (zc @hS2 Qw9) zW,?_,?_⟩
      ·exact hjl
      ·omega
     ·have ej:j=lv.length:=by omega
      have hnl: ¬((j:Int)<(lv.length:Int)):=by omega
      rw [ej,Zy,<-hft];rw [ej] at hnl;generalize hS2:(ar.take (i+1)).flatten=S2 at*;refine zR (zc @hnl Qw9) Qw9 Qw9 ?_;refine ⟨i+1,Weak.headF 3 78 [0,1,2,4,5,22,23,24] (zc @hS2 Qw9) zW,?_,?_⟩
      ·exact hlt
      ·omega
   ·have ei:i=ar.length:=by omega
    subst ei;have hnl: ¬((ar.length:Int)<(ar.length:Int)):=by omega
    rw [Zy];generalize ar.flatten=S at*;refine zJ (stop 14) (zc @hnl (zc @e0 (zc @halI (zc @e01 (zc @hl0J (zc @A0o (zc @A0e Qw9))))))) Qw9 Qw9 Qw9 ?_;rw [<-ht0];have hSm: ∀x:Nat,x<2*L.length->((x:Nat):Int)∈S:=fun x hx=>(hmem _).2 ⟨by omega,by omega⟩;refine AWp.loopS (α:=Nat) 78 (fun k=>[(0,.c (.yld l)),(1,.c (.rptr [.int .i64 n,.slice (A0f es),.slice (A00 ar)])),(2,.c (.rptr [.slice (A0p t)])),(4,.c (.map 1)),(5,.c (.map 2)),(10,.c (.int .i64 (tn 0:Nat))),(11,.c (.int .i64 (tn k:Nat))),(12,.c (.bool (decide (k=0)||decide (k<2*L.length))))]) (fun k=>[.ghost (J k),.map (mMI (fun x=>atL L x.toNat) S),.map (mMI (fun x=>nextR L ar x.toNat) S)]) (fun k=>k≤2*L.length) (fun k=>2*L.length-k) (0) (hk:=Weak.headL 3 78 [0,1,2,4,5,10,11,12] zW) (h0:=?_) (round:=fun k hI=>?_)
    ·exact Xj _
    ·have hk:k≤2*L.length:=hI;clear hI;by_cases hlt:k<2*L.length
     ·have hx:=hlt2 k hlt;have hgk:=hgetI k hlt;rw [hgR _ hx] at hgk;have hdec:(decide (k=0)||decide (k<2*L.length))=true:=by simp [hlt]
      rw [hdec];have v1:=B1g (fun x=>atL L x.toNat) (hSm _ hx) (.c (.int .i64 0));rw [Int.toNat_natCast] at v1;have c2:=A3d t ((tn k / 2:Nat):Int) htl;have hd:(((tn k:Nat):Int)).tdiv 2=((tn k / 2:Nat):Int):=rfl;have hxo:B5B .xor .i64 ((tn k:Nat):Int) 1=((oppH (tn k):Nat):Int):=C1E _ (by omega);have hnx:=hst k hlt;have hmore:=hbk k hlt;have hb:(!decide (((tn (k+1):Nat):Int)=((tn 0:Nat):Int)))=(decide (k+1=0)||decide (k+1<2*L.length)):=by
       rw [<-ht0] at hmore;by_cases hc:k+1<2*L.length
       ·rw [decide_eq_true hc,decide_eq_false (fun e=>hmore.1 (by omega) hc)]; simp
       ·rw [decide_eq_false hc,decide_eq_true (by have:=hmore.2 hc; omega)]; simp
      repeat' (first|((with_reducible refine AWp.seq (AWp.of_reg (id:=16) (AReg.pre 5 (fun K hK=>?_))));simp only [List.take_succ_cons,List.take_zero])|((with_reducible refine AWp.of_reg (id:=16) (AReg.pre 5 (fun K hK=>?_)));simp only [List.take_succ_cons,List.take_zero])|((first|(refine zT ?_;intro K' hK')|(refine zG ?_ ?_<;>(try refine zH ?_)<;>intro hguard<;>(try exact zX)<;>try intro K' hK'))<;>((try simp+contextual only [go_sem,v1,A15]);(repeat' first|(with_reducible refine hK' _ _ ?_;clear hK' K')|(refine ⟨_,A7A,rfl,B5p,?_⟩ ; try simp+contextual only [go_sem,v1,A15])|exact zY|with_reducible refine Qw8 ?_ ?_|(with_reducible intro hpath;try exact zP)|(refine hK' _ _ ?_;clear hK' K')|fail);try refine zS ?_))|(refine zE ?_;refine hK _ _ ?_;clear hK K)|(refine zN ?_;try refine zS ?_)|refine zA ?_|(refine zB ?_;intro K hK)|(refine zC ?_ ?_<;>(try refine zH ?_)<;>intro hcond<;>try exact zX)|fail)
      simp only [Zw,ZW];refine AReg.yield rfl rfl rfl (by rfl) (by with_unfolding_all rfl) (by simp [okBlk]) (hY _ _ hgk) (hJ _) hJx ?_ ?_<;>(try refine zS ?_)<;>refine AReg.rest (fun K hK=> ?_)
      ·
       by_cases hm:((tn k / 2:Nat):Int)∈t
       ·rw [decide_eq_true hm] at c2;rw [if_pos hm] at hnx;have v2:=B1g (fun x=>nextR L ar x.toNat) (hSm _ (B0g hx)) (.c (.int .i64 0));rw [Int.toNat_natCast,<-hnx] at v2
        repeat' (first|((first|(refine zT ?_;intro K' hK')|(refine zG ?_ ?_<;>(try refine zH ?_)<;>intro hguard<;>(try exact zX)<;>try intro K' hK'))<;>((try simp+contextual only [go_sem,hd,hxo,v2,A15]);(repeat' first|(with_reducible refine hK' _ _ ?_;clear hK' K')|(with_reducible refine zK c2 ?_;try simp+contextual only [go_sem,hd,hxo,v2,A15])|(refine ⟨_,A7A,rfl,B5p,?_⟩ ; try simp+contextual only [go_sem,hd,hxo,v2,A15])|exact zY|with_reducible refine Qw8 ?_ ?_|(with_reducible intro hpath;try exact zP)|(refine hK' _ _ ?_;clear hK' K')|fail);try refine zS ?_))|(refine zE ?_;refine hK _ _ ?_;clear hK K)|(refine zN ?_;try refine zS ?_)|refine zA ?_|(refine zB ?_;intro K hK)|(refine zC ?_ ?_<;>(try refine zH ?_)<;>intro hcond<;>try exact zX)|fail)
        rw [hb];refine ⟨k+1,Weak.headN 3 78 [0,1,2,4,5,10,11,12] zW,?_,?_⟩
        ·exact hlt
        ·omega
       ·rw [decide_eq_false hm] at c2;rw [if_neg hm] at hnx;have v2:=B1g (fun x=>nextR L ar x.toNat) (hSm _ hx) (.c (.int .i64 0));rw [Int.toNat_natCast,<-hnx] at v2
        repeat' (first|((first|(refine zT ?_;intro K' hK')|(refine zG ?_ ?_<;>(try refine zH ?_)<;>intro hguard<;>(try exact zX)<;>try intro K' hK'))<;>((try simp+contextual only [go_sem,hd,v2,A15]);(repeat' first|(with_reducible refine hK' _ _ ?_;clear hK' K')|(with_reducible refine zK c2 ?_;try simp+contextual only [go_sem,hd,v2,A15])|(refine ⟨_,A7A,rfl,B5p,?_⟩ ; try simp+contextual only [go_sem,hd,v2,A15])|exact zY|with_reducible refine Qw8 ?_ ?_|(with_reducible intro hpath;try exact zP)|(refine hK' _ _ ?_;clear hK' K')|fail);try refine zS ?_))|(refine zE ?_;refine hK _ _ ?_;clear hK K)|(refine zN ?_;try refine zS ?_)|refine zA ?_|(refine zB ?_;intro K hK)|(refine zC ?_ ?_<;>(try refine zH ?_)<;>intro hcond<;>try exact zX)|fail)
        rw [hb];refine ⟨k+1,Weak.headN 3 78 [0,1,2,4,5,10,11,12] zW,?_,?_⟩
        ·exact hlt
        ·omega
      ·
       repeat' (first|((first|(refine zT ?_;intro K' hK')|(refine zG ?_ ?_<;>(try refine zH ?_)<;>intro hguard<;>(try exact zX)<;>try intro K' hK'))<;>((try simp+contextual only [go_sem]);(repeat' first|(with_reducible refine hK' _ _ ?_;clear hK' K')|exact zY|with_reducible refine Qw8 ?_ ?_|(with_reducible intro hpath;try exact zP)|(refine hK' _ _ ?_;clear hK' K')|fail);try refine zS ?_))|(refine zE ?_;refine hK _ _ ?_;clear hK K)|(refine zN ?_;try refine zS ?_)|refine zA ?_|(refine zB ?_;intro K hK)|(refine zC ?_ ?_<;>(try refine zH ?_)<;>intro hcond<;>try exact zX)|fail)
       exact ⟨Qw7,_,.inr rfl⟩
     ·have ek:k=2*L.length:=by omega
      have hdec:(decide (k=0)||decide (k<2*L.length))=false:=by simp; omega
      rw [hdec];refine zR Qw9 Qw9 Qw9 ?_;exact ⟨Qw7,_,.inl (by rw [hlenI,ek])⟩
noncomputable def B0t (r:R) (t:List Int):Int:=if ribE r≠0 then ribE r else A2A r.g t
theorem C1Z {n:Int}: ∀{p:Option Int} {l:List Int},A2h n p l=0-> ∀x,x∈l->0≤x∧x<n:=fun h=>A5u h
theorem A69 {r:R} {t:List Int} (h:B0t r t=0):RTree r t∧((t.length:Int)=r.n-1):=by
 unfold B0t at h;by_cases h1:ribE r≠0
 ·rw [if_pos h1] at h; exact absurd h h1
 ·rw [if_neg h1] at h;have hr:=B4M (show ribE r=0 by omega);unfold A2A at h;by_cases h2:A0r r.g≠0
  ·rw [if_pos h2] at h; exact absurd h h2
  ·rw [if_neg h2] at h;by_cases h3:A2h (endsL r.g.es).length none t≠0
   ·rw [if_pos h3] at h; exact absurd h h3
   ·rw [if_neg h3] at h;by_cases h4:(t.length:Int)≠r.g.n-1
    ·rw [if_pos h4] at h; omega
    ·rw [if_neg h4] at h;have h5:treeB r.g.n.toNat (endsL r.g.es) t=true:=by
      cases q:treeB r.g.n.toNat (endsL r.g.es) t with
      | true=>rfl
      | false=>rw [q] at h; simp at h
     exact ⟨⟨hr,C1Z (p:=none) (show A2h ((endsL r.g.es).length:Int) none t=0 by omega),h5⟩,by show _=r.g.n-1; omega⟩
theorem A9g (r:R) (t:List Int) (hs:RSm r) (htl:t.length<2^40):ACall Tryz.prog 52 [tR r,A0m t] (A0k (B0t r t)):=by
 have hC:=B2r r hs;have hT:=B9o r.g t hs.es htl;unfold B0t;obtain ⟨n,es,ar⟩:=r;change ACall _ _ [tG ⟨n,es⟩,_] _ at hT;by_cases h:ribE ⟨n,es,ar⟩=0
 ·rw [if_neg (by omega)];rw [h] at hC;refine ACall.of_body Tryz.func52 rfl (by kernel_rfl) ?_;simp only [entry,Tryz.ntmps52,tR];refine zU ?_;refine zR Qw9 (zc hC (zc hT Qw9)) Qw9 ?_;simp [A0y,A0x,Blk.cells,ty,Tryz.results52,A0s,A0t,toT,A0d,A0b,A0c,A0a,A0k]
 ·rw [if_pos h];generalize ribE ⟨n,es,ar⟩=e at*;refine ACall.of_body Tryz.func52 rfl (by kernel_rfl) ?_;simp only [entry,Tryz.ntmps52,tR];refine zU ?_;refine zR (zc @h Qw9) (zc hC Qw9) Qw9 ?_;simp [A0y,A0x,Blk.cells,ty,Tryz.results52,A0s,A0t,toT,A0d,A0b,A0c,A0a,A0k]
end Go.Proofs.YtdbdfkohpjefjaaGreat
