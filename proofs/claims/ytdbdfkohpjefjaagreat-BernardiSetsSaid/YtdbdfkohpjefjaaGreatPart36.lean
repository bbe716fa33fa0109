/- A part of the proof. -/
import Derived.Test.YtdbdfkohpjefjaaGreatPart31
import Derived.Test.YtdbdfkohpjefjaaGreatPart30
import Derived.Test.YtdbdfkohpjefjaaGreatPart29
import Derived.Test.YtdbdfkohpjefjaaGreatPart32
set_option linter.all false
set_option maxHeartbeats 4000000
set_option maxRecDepth 100000
namespace Go.Proofs.YtdbdfkohpjefjaaGreat
open Go.Sp
set_option maxHeartbeats 2000000
theorem C2V {r:R} (hr:ROk r) {x y:Nat} (hx:x<2*(endsL r.es).length) (hy:y<2*(endsL r.es).length) (hg:gR (endsL r.es) x=gR (endsL r.es) y):A3y (sR (endsL r.es) r.ar) x y:=by
 have ax:=A1D hr.c hx;have ay:=A1D hr.c hy;have hat:atL (endsL r.es) x=atL (endsL r.es) y:=by unfold gR at hg; omega
 obtain ⟨l,q1,q2,q3,q4⟩:=hr.row hx;refine C27 q3.nd (fun z hz=> ?_) q4 (q3.sup _ (A1L.2 ⟨by omega,by omega,by rw [Int.toNat_natCast]; exact hat.symm⟩));have hz2:=A1L.1 (q3.sub _ hz);rw [Int.toNat_natCast] at hz2;have hzl:z<2*(endsL r.es).length:=by omega
 have hzn:=hr.next hzl;have:nextR (endsL r.es) r.ar z=A8r l (z:Int):=by unfold nextR; rw [hz2.2.2,q2]
 unfold sR;rw [<-this]; omega
section
variable {r:R}
theorem ROk.cyc_same (hr:ROk r) {x y:Nat} (hx:x<2*(endsL r.es).length) (hy:y<2*(endsL r.es).length):A3y (sR (endsL r.es) r.ar) x y↔gR (endsL r.es) x=gR (endsL r.es) y:=by
 constructor
 ·rintro ⟨i,rfl⟩;have hem:=A89 hr;clear hy
  induction i with
  | zero=>rfl
  | succ i ih=>
   show _=gR (endsL r.es) (sR (endsL r.es) r.ar (it (sR (endsL r.es) r.ar) i x));rw [hem.keep _ (hem.perm.it_lt hx i)]; exact ih
 ·exact C2V hr hx hy
def arN (r:R) (v:Nat):List Nat:=(r.ar.getD v []).map Int.toNat
theorem A5e (hr:ROk r):B3v (endsL r.es) (gR (endsL r.es)):=(A89 hr).ends
theorem ROk.rowv (hr:ROk r) {v:Nat} (hv:v<r.n.toNat): ∃l,r.ar[v]? =some l∧r.ar.getD v []=l∧LOk l (ownL (endsL r.es) (v:Int) (2*(endsL r.es).length)):=by
 have hl:=hr.len;have hlt:v<r.ar.length:=by omega
 have e:=Qq hlt;exact ⟨_,e,by rw [Qz,e]; rfl,hr.l _ _ e⟩
theorem B46 (hr:ROk r):Arnd r.n.toNat (endsL r.es).length (gR (endsL r.es)) (arN r):=by
 refine ⟨fun v x hv=> ?_,fun v hv=> ?_⟩
 ·obtain ⟨l,h1,h2,h3⟩:=hr.rowv hv;unfold arN;rw [h2,Xq];constructor
  ·rintro ⟨y,hy,rfl⟩;have hm:=A1L.1 (h3.sub _ hy);refine ⟨by omega,?_⟩;unfold gR; rw [hm.2.2]; omega
  ·rintro ⟨hx,hg⟩;have:=A1D hr.c hx;unfold gR at hg;exact ⟨(x:Int),h3.sup _ (A1L.2 ⟨by omega,by omega,by rw [Int.toNat_natCast]; omega⟩),by omega⟩
 ·obtain ⟨l,h1,h2,h3⟩:=hr.rowv hv;unfold arN;rw [h2];refine B1L h3.nd fun x hx y hy e=> ?_;have:=(A1L.1 (h3.sub _ hx)).1;have:=(A1L.1 (h3.sub _ hy)).1;omega
theorem C4o (u v:Nat): ∀L:List (Int×Int),cJ L u v=sumR (fun f=>if isJ (L.getD f (0,0)) u v then 1 else 0) L.length:=by
 intro L;refine A5a (P:=fun L=>cJ L u v=sumR (fun f=>if isJ (L.getD f (0,0)) u v then 1 else 0) L.length) rfl (fun L p ih=> ?_) L;rw [C1B,Xw,List.length_singleton,sumR,ih];have e1:sumR (fun f=>if isJ ((L++[p]).getD f (0,0)) u v then (1:Int) else 0) L.length=sumR (fun f=>if isJ (L.getD f (0,0)) u v then 1 else 0) L.length:=A1m fun f hf=>by
  rw [Qz,Qk hf,<-Qz]
 have e2:(L++[p]).getD L.length (0,0)=p:=by rw [Qz,QJ (QQ _),Jz]; rfl
 rw [e1,e2];simp only [cJ]; omega
theorem B8F (hr:ROk r):Joins (endsL r.es).length r.n.toNat (gR (endsL r.es)) (mulE r.es):=by
 intro u v hu hv huv;have hm: ∀e,e∈r.es->0≤e.m:=fun e he=>by
  have:=(A0j.1 hr.c).2.1 e he;unfold okE at this; omega
 rw [<-C2E hm,C4o];refine A1m fun f hf=> ?_;have he:=A5e hr f hf;rw [Qz,he,Option.getD_some];generalize gR (endsL r.es) (2*f)=a;generalize gR (endsL r.es) (2*f+1)=b;by_cases c1:a=u∧b=v
 ·rw [if_pos (show isJ _ u v from ⟨by dsimp only; omega,.inl (by dsimp only; omega)⟩),if_pos c1,if_neg (by omega)]; rfl
 ·by_cases c2:a=v∧b=u
  ·rw [if_pos (show isJ _ u v from ⟨by dsimp only; omega,.inr (by dsimp only; omega)⟩),if_neg c1,if_pos c2]; rfl
  ·rw [if_neg (fun h:isJ _ u v=>by unfold isJ at h; dsimp only at h; omega),if_neg c1,if_neg c2]; rfl
theorem B8G (s:Nat->Nat) {t:List Int} (ht: ∀x,x∈t->0≤x):B92 s (t.map Int.toNat)=A8z s (A8N t):=by
 funext x;unfold B92 A8z A8N;have:x / 2∈t.map Int.toNat↔decide (((x / 2:Nat):Int)∈t)=true:=by
  rw [decide_eq_true_eq,Xq];constructor
  ·rintro ⟨y,hy,e⟩;have:=ht y hy;have:((x / 2:Nat):Int)=y:=by omega
   rw [this]; exact hy
  ·intro h;exact ⟨_,h,by omega⟩
 by_cases h:x / 2∈t.map Int.toNat
 ·rw [if_pos h,if_pos (this.1 h)]
 ·rw [if_neg h,if_neg fun q=>h (this.2 q)]
theorem A4G (hr:ROk r):0<r.n.toNat:=by have:=(A0j.1 hr.c).1; show 0<r.g.n.toNat; omega
theorem B0I (hr:ROk r):InN r.n.toNat (endsL r.es):=fun p hp=>by
 obtain ⟨k,hk⟩:=ZZ.1 hp;have hkl:=(Qx.1 hk).1;have hem:=A89 hr;rw [hem.ends k hkl] at hk; injection hk with hk; subst hk;have:=hem.lt (2*k) (by omega);have:=hem.lt (2*k+1) (by omega);dsimp only; omega
theorem B8H (hr:ROk r) {t:List Int} (ht: ∀x,x∈t->0≤x∧x<((endsL r.es).length:Int)) (hb:treeB r.n.toNat (endsL r.es) t=true):A5i (pkL (endsL r.es) t)∧t.Nodup∧ ∀u v,u<r.n.toNat->v<r.n.toNat->Conn (pkL (endsL r.es) t) u v:=by
 unfold treeB at hb;obtain ⟨hl,hc⟩:=of_decide_eq_true hb;have hac:A5i (pkL (endsL r.es) t):=(A6k _ (B1X (B0I hr) ht)).2.2 (by rw [hc,A2X]; have:=A4G hr; omega);exact ⟨hac,A9O (A5e hr) hac ht,fun u v hu hv=>A77 (A6j _ _) hc hu hv⟩
theorem C0W (hr:ROk r) {t:List Int} (ht: ∀x,x∈t->0≤x∧x<((endsL r.es).length:Int)) (hb:treeB r.n.toNat (endsL r.es) t=true) {h0:Nat} (h:h0<2*(endsL r.es).length): ∃p,TourP (2*(endsL r.es).length) (A8z (sR (endsL r.es) r.ar) (A8N t)) h0 p:=by
 obtain ⟨h1,h2,h3⟩:=B8H hr ht hb;have hem:=A89 hr;have hpk:pkN (endsL r.es) (t.map Int.toNat)=pkL (endsL r.es) t:=by
  rw [B8x,VQ];congr 1;have: ∀x,x∈t->((fun e:Nat=>(e:Int))∘Int.toNat) x=x:=fun x hx=>by have:=(ht x hx).1; show ((x.toNat:Nat):Int)=x; omega
  exact (WW this).trans (List.map_id _)
 have hnd:(t.map Int.toNat).Nodup:=B1L h2 fun x hx y hy e=>by
  have:=(ht x hx).1; have:=(ht y hy).1; omega
 obtain ⟨q1,q2⟩:=hem.set_tour (fun x y hx hy=>hr.cyc_same hx hy) hnd (fun e he=>by
  obtain ⟨x,hx,rfl⟩:=Xq.1 he
  have:=ht x hx; omega) (by rw [hpk]; exact h1) _ (QQ _)
 rw [Zw] at q1 q2;rw [B8G _ fun x hx=>(ht x hx).1] at q1 q2;refine C2t q1 h fun x hx=> ?_;exact (q2 h0 x h hx).2 (by rw [hpk]; exact h3 _ _ (hem.lt _ h) (hem.lt _ hx))
end
theorem B8I {d:List Int} {i:Nat} (h:i<d.length):d.getD i 0=d[i]:=by
 rw [Qz,Qq h]; rfl
def inD (k:Int):Bool:=decide (-1048576≤k∧k≤1048576)
def B0X (d:List Int) (n:Int):Int:=if n<1∨12<n then 2 else if (d.length:Int)≠n then 8 else if d.all inD=true then 0 else 2
theorem B0J {d:List Int} {n:Nat} (h:B0X d n=0):1≤n∧n≤12∧d.length=n∧bndL 1048576 d:=by
 unfold B0X at h;split at h
 ·cases h
 ·split at h
  ·cases h
  ·split at h
   ·rename_i h1 h2 h3;refine ⟨by omega,by omega,by omega,fun v=> ?_⟩;by_cases hv:v<d.length
    ·rw [B8I hv];have:=Zv.1 h3 _ (Xv hv);unfold inD at this;simpa using this
    ·rw [Qz,QV (by omega)]; simp
   ·cases h
theorem C4p (k:Int):ACall Tryz.prog 61 [A0m k] (A0v (inD k)):=by
 unfold inD;by_cases h1: -1048576≤k
 ·by_cases h2:k≤1048576
  ·have h3:k≥ -1048576:=h1;rw [decide_eq_true ⟨h1,h2⟩];refine ACall.of_body Tryz.func61 rfl (by kernel_rfl) ?_;simp only [entry,Tryz.ntmps61,A0m];refine zU ?_;refine zR (zc @h3 (zc @h2 Qw8)) Qw8 Qw8 ?_;simp [A0z,A0y,Blk.cells,ty,Tryz.results61,A0t,A0u,toT,A0d,A0b,A0c,A0a,A0v]
  ·have h3:k≥ -1048576:=h1;rw [decide_eq_false (fun h=>h2 h.2)];refine ACall.of_body Tryz.func61 rfl (by kernel_rfl) ?_;simp only [entry,Tryz.ntmps61,A0m];refine zU ?_;refine zR (zc @h3 (zc @h2 Qw8)) Qw8 Qw8 ?_;simp [A0z,A0y,Blk.cells,ty,Tryz.results61,A0t,A0u,toT,A0d,A0b,A0c,A0a,A0v]
 ·have h3: ¬k≥ -1048576:=h1;rw [decide_eq_false (fun h=>h1 h.1)];refine ACall.of_body Tryz.func61 rfl (by kernel_rfl) ?_;simp only [entry,Tryz.ntmps61,A0m];refine zU ?_;refine zR (zc @h3 Qw8) Qw8 Qw8 ?_;simp [A0z,A0y,Blk.cells,ty,Tryz.results61,A0t,A0u,toT,A0d,A0b,A0c,A0a,A0v]
theorem B8J (k:Int):ACall Tryz.prog 107 [A0m k] (A0v (inD k)):=by
 unfold inD;by_cases h1: -1048576≤k
 ·by_cases h2:k≤1048576
  ·have h3:k≥ -1048576:=h1;rw [decide_eq_true ⟨h1,h2⟩];refine ACall.of_body Tryz.func107 rfl (by kernel_rfl) ?_;simp only [entry,Tryz.ntmps107,A0m];refine zU ?_;refine zR (zc @h3 (zc @h2 Qw8)) Qw8 Qw8 ?_;simp [A0z,A0y,Blk.cells,ty,Tryz.results107,A0t,A0u,toT,A0d,A0b,A0c,A0a,A0v]
  ·have h3:k≥ -1048576:=h1;rw [decide_eq_false (fun h=>h2 h.2)];refine ACall.of_body Tryz.func107 rfl (by kernel_rfl) ?_;simp only [entry,Tryz.ntmps107,A0m];refine zU ?_;refine zR (zc @h3 (zc @h2 Qw8)) Qw8 Qw8 ?_;simp [A0z,A0y,Blk.cells,ty,Tryz.results107,A0t,A0u,toT,A0d,A0b,A0c,A0a,A0v]
 ·have h3: ¬k≥ -1048576:=h1;rw [decide_eq_false (fun h=>h1 h.1)];refine ACall.of_body Tryz.func107 rfl (by kernel_rfl) ?_;simp only [entry,Tryz.ntmps107,A0m];refine zU ?_;refine zR (zc @h3 Qw8) Qw8 Qw8 ?_;simp [A0z,A0y,Blk.cells,ty,Tryz.results107,A0t,A0u,toT,A0d,A0b,A0c,A0a,A0v]
theorem B32 (n:Int):ACall Tryz.prog 106 [A0m n] (A0m (if n<1∨12<n then 2 else 0)):=by
 by_cases h1:n<1
 ·rw [if_pos (.inl h1)];refine ACall.of_body Tryz.func106 rfl (by kernel_rfl) ?_;simp only [entry,Tryz.ntmps106,A0m];refine zU ?_;refine zR (zc @h1 Qw8) Qw8 Qw8 ?_;simp [A0z,A0y,Blk.cells,ty,Tryz.results106,A0t,A0u,toT,A0d,A0b,A0c,A0a,A0m]
 ·by_cases h2:n>12
  ·rw [if_pos (.inr h2)];refine ACall.of_body Tryz.func106 rfl (by kernel_rfl) ?_;simp only [entry,Tryz.ntmps106,A0m];refine zU ?_;refine zR (zc @h1 (zc @h2 Qw8)) Qw8 Qw8 ?_;simp [A0z,A0y,Blk.cells,ty,Tryz.results106,A0t,A0u,toT,A0d,A0b,A0c,A0a,A0m]
  ·rw [if_neg (by omega)];refine ACall.of_body Tryz.func106 rfl (by kernel_rfl) ?_;simp only [entry,Tryz.ntmps106,A0m];refine zU ?_;refine zR (zc @h1 (zc @h2 Qw8)) Qw8 Qw8 ?_;simp [A0z,A0y,Blk.cells,ty,Tryz.results106,A0t,A0u,toT,A0d,A0b,A0c,A0a,A0m]
theorem B8K {d:List Int} {i:Nat} (h: ∀j,j<i->inD (d.getD j 0)=true) (hi:i=d.length):d.all inD=true:=by
 rw [Zv];intro x hx;obtain ⟨j,hj,rfl⟩:=Vq.1 hx;have:=h j (by omega);rwa [B8I hj] at this
theorem B8L {d:List Int} {i:Nat} (hi:i<d.length) (h:inD (d.getD i 0)=false): ¬d.all inD=true:=fun ha=>by
 have:=Zv.1 ha _ (Xv hi);rw [B8I hi,this] at h;cases h
theorem B8M (d:List Int) (n:Int) (hdl:d.length<2^40):ACall Tryz.prog 33 [A0n d,A0m n] (A0m (B0X d n)):=by
 unfold B0X;by_cases h1:n<1
 ·rw [if_pos (.inl h1)];refine ACall.of_body Tryz.func33 rfl (by kernel_rfl) ?_;simp only [entry,Tryz.ntmps33,A0n,A0m];refine zU ?_;refine zR (zc @h1 Qw8) Qw8 Qw8 ?_;simp [A0z,A0y,Blk.cells,ty,Tryz.results33,A0t,A0u,toT,A0d,A0b,A0c,A0a,A0m]
 by_cases h2:n>12
 ·rw [if_pos (.inr h2)];refine ACall.of_body Tryz.func33 rfl (by kernel_rfl) ?_;simp only [entry,Tryz.ntmps33,A0n,A0m];refine zU ?_;refine zR (zc @h1 (zc @h2 Qw8)) Qw8 Qw8 ?_;simp [A0z,A0y,Blk.cells,ty,Tryz.results33,A0t,A0u,toT,A0d,A0b,A0c,A0a,A0m]
 rw [if_neg (by omega)];by_cases hd:(d.length:Int)=n
 case neg=>
  rw [if_pos hd];refine ACall.of_body Tryz.func33 rfl (by kernel_rfl) ?_;simp only [entry,Tryz.ntmps33,A0n,A0m];refine zU ?_;refine zR (zc @h1 (zc @h2 (zc @A0e (zc @hd Qw8)))) Qw8 Qw8 ?_;simp [A0z,A0y,Blk.cells,ty,Tryz.results33,A0t,A0u,toT,A0d,A0b,A0c,A0a,A0m]
 rw [if_neg (by omega)];subst hd;refine ACall.of_body Tryz.func33 rfl (by kernel_rfl) ?_;simp only [entry,Tryz.ntmps33,A0n,A0m];refine zU ?_;refine zJ (stop 5) (zc @h1 (zc @h2 (zc @A0e Qw8))) Qw8 Qw8 Qw8 ?_;refine zR Qw8 Qw8 Qw8 ?_;refine AWp.loopS (α:=Nat) 27 (fun i=>[(0,.c (.slice (A0o d) .none)),(1,.c (.int .i64 (d.length:Int))),(5,.c (.int .i64 (i:Int)))]) (fun i=>[]) (fun i=>i≤d.length∧ ∀j,j<i->inD (d.getD j 0)=true) (fun i=>d.length-i) (0) (hk:=Weak.headL 0 27 [0,1,5] zW) (h0:=?_) (round:=fun i hI=>?_)
 ·exact ⟨Xj _,fun j hj=>by omega⟩
 ·obtain ⟨hi,hpre⟩:=hI;by_cases hil:i<d.length
  ·have hiI:(i:Int)<(d.length:Int):=by omega
   have hg:=A0w (A1j (d:=d) (i:=i) hil);have hw:=C4p (d.getD i 0);cases hin:inD (d.getD i 0) with
   | false=>
    rw [if_neg (B8L hil hin)];rw [hin] at hw;clear hpre hin;generalize d.getD i 0=x at*;refine zR (zc @hiI (zc @hg (zc @A0e (zc @Xk Qw8)))) (zc hw Qw8) Qw8 ?_;simp [A0z,A0y,Blk.cells,ty,Tryz.results33,A0t,A0u,toT,A0d,A0b,A0c,A0a,A0m]
   | true=>
    have hp2: ∀j,j<i+1->inD (d.getD j 0)=true:=fun j hj=>by
     by_cases e:j=i
     ·rw [e]; exact hin
     ·exact hpre j (by omega)
    rw [hin] at hw;clear hpre hin;generalize d.getD i 0=x at*;refine zR (zc @hiI (zc @hg (zc @A0e (zc @Xk Qw8)))) (zc hw Qw8) Qw8 ?_;refine ⟨i+1,Weak.headN 0 27 [0,1,5] zW,?_,?_⟩
    ·exact ⟨hil,hp2⟩
    ·omega
  ·have hnl: ¬(i:Int)<(d.length:Int):=by omega
   rw [if_pos (B8K hpre (by omega))];refine zR (zc @hnl Qw8) Qw8 Qw8 ?_;simp [A0z,A0y,Blk.cells,ty,Tryz.results33,A0t,A0u,toT,A0d,A0b,A0c,A0a,A0m]
theorem A8F (d:List Int) (n:Int) (hdl:d.length<2^40):ACall Tryz.prog 63 [A0n d,A0m n] (A0m (B0X d n)):=by
 have hV:=B32 n;unfold B0X;by_cases h1:n<1∨12<n
 ·rw [if_pos h1] at hV ⊢;refine ACall.of_body Tryz.func63 rfl (by kernel_rfl) ?_;simp only [entry,Tryz.ntmps63,A0n,A0m];refine zU ?_;refine zR Qw8 (zc hV Qw8) Qw8 ?_;simp [A0z,A0y,Blk.cells,ty,Tryz.results63,A0t,A0u,toT,A0d,A0b,A0c,A0a,A0m]
 rw [if_neg h1] at hV ⊢;by_cases hd:(d.length:Int)=n
 case neg=>
  rw [if_pos hd];refine ACall.of_body Tryz.func63 rfl (by kernel_rfl) ?_;simp only [entry,Tryz.ntmps63,A0n,A0m];refine zU ?_;refine zR (zc @A0e (zc @hd Qw8)) (zc hV Qw8) Qw8 ?_;simp [A0z,A0y,Blk.cells,ty,Tryz.results63,A0t,A0u,toT,A0d,A0b,A0c,A0a,A0m]
 rw [if_neg (by omega)];subst hd;refine ACall.of_body Tryz.func63 rfl (by kernel_rfl) ?_;simp only [entry,Tryz.ntmps63,A0n,A0m];refine zU ?_;refine zJ (stop 7) (zc @A0e Qw8) (zc hV Qw8) Qw8 Qw8 ?_;refine AWp.loopS (α:=Nat) 27 (fun i=>[(17,.c (.slice (A0o d) .none)),(18,.c (.int .i64 (d.length:Int))),(19,.c (.int .i64 (i:Int)))]) (fun i=>[]) (fun i=>i≤d.length∧ ∀j,j<i->inD (d.getD j 0)=true) (fun i=>d.length-i) (0) (hk:=Weak.headL 0 27 [17,18,19] zW) (h0:=?_) (round:=fun i hI=>?_)
 ·exact ⟨Xj _,fun j hj=>by omega⟩
 ·obtain ⟨hi,hpre⟩:=hI;by_cases hil:i<d.length
  ·have hiI:(i:Int)<(d.length:Int):=by omega
   have hg:=A0w (A1j (d:=d) (i:=i) hil);have hw:=B8J (d.getD i 0);cases hin:inD (d.getD i 0) with
   | false=>
    rw [if_neg (B8L hil hin)];rw [hin] at hw;clear hpre hin;generalize d.getD i 0=x at*;refine zR (zc @hiI (zc @hg (zc @A0e (zc @Xk Qw8)))) (zc hw Qw8) Qw8 ?_;simp [A0z,A0y,Blk.cells,ty,Tryz.results63,A0t,A0u,toT,A0d,A0b,A0c,A0a,A0m]
   | true=>
    have hp2: ∀j,j<i+1->inD (d.getD j 0)=true:=fun j hj=>by
     by_cases e:j=i
     ·rw [e]; exact hin
     ·exact hpre j (by omega)
    rw [hin] at hw;clear hpre hin;generalize d.getD i 0=x at*;refine zR (zc @hiI (zc @hg (zc @A0e (zc @Xk Qw8)))) (zc hw Qw8) Qw8 ?_;refine ⟨i+1,Weak.headN 0 27 [17,18,19] zW,?_,?_⟩
    ·exact ⟨hil,hp2⟩
    ·omega
  ·have hnl: ¬(i:Int)<(d.length:Int):=by omega
   rw [if_pos (B8K hpre (by omega))];refine zR (zc @hnl Qw8) Qw8 Qw8 ?_;simp [A0z,A0y,Blk.cells,ty,Tryz.results63,A0t,A0u,toT,A0d,A0b,A0c,A0a,A0m]
structure IndS (g:G) (n:Nat) (l:List Int) (R:List Bool):Prop where
 c:checkG g=0
 n':g.n=n
 r: ∀x,x∈l->0≤x∧x<n
 m: ∀v,v<n->(R.getD v false=true↔(v:Int)∈l)
section
variable {g:G} {n:Nat} {l:List Int} {R:List Bool}
end
structure FewF (g:G):Prop where
 es:g.es.length≤40
 sz:checkG g=0->g.n≤6∧(endsL g.es).length≤9
end Go.Proofs.YtdbdfkohpjefjaaGreat
