/- A part of the proof. -/
import Derived.Test.YtdhfgihnoimoaaaPart45
import Derived.Test.YtdhfgihnoimoaaaLayerC
set_option linter.all false
set_option maxHeartbeats 4000000
set_option maxRecDepth 100000
namespace Go.Proofs.Ytdhfgihnoimoaaa
open Go.Sp
section
variable {n:Nat} {es:List E}
theorem B2Q (g:Gok n es):sumD (A8k n es) n=2*(sizeE es-n+1)-2:=by
 have h1:=g.h1
 have e:sumD (A8k n es) n=sumR (B09 n (mulE es)) n:=A0h fun v hv=>A7j hv
 rw [e,B5f (by omega),A5Q g.hE]; omega
theorem B70 (h:Sm5 n es):bndL 100 (A8k n es):=fun v=>by
 have hz:=h.sz
 by_cases hv:v<n
 ·rw [A7j hv]
  have h1:0≤sumR (mulE es v) n:=A0M fun u _=>A1t h.g.hE _ _
  have h2:=A3l h.g.hE v
  unfold B09
  omega
 ·rw [List.getD_eq_getElem?_getD,List.getElem?_eq_none (by have:=A7i n es n; unfold A8k; omega)]; simp
theorem B2R (n:Nat) (es:List E):(A8k n es).length=n:=A7i n es n
theorem B8H (g:Gok n es) {D:Nat→Int} (h: ∀v,v<n→D v=0):rkD n (mulE es) D=0:=by
 have h1:=g.h1
 have:=A9V g (v:=0) (by omega)
 rw [←this]
 exact A6Z g.hM (by omega) fun v hv=>by
  rw [h v hv]
  show 0=(A4N n 0 ((0:Nat):Int)).getD v 0
  rw [A3m n 0 _ (by omega)]; split<;>rfl
theorem B8I (g:Gok n es):rkL n es (A8k n es)=sizeE es-n+1-1:=by
 have h1:=g.h1
 have h:=rr g.hM (by omega) (fun v=>(A8k n es).getD v 0) (B5V g)
 have e:sumR (fun v=>(A8k n es).getD v 0) n=2*(sizeE es-n+1)-2:=B2Q g
 rw [e,B8H g (D:=fun v=>B09 n (mulE es) v-(A8k n es).getD v 0) fun v hv=>by rw [A7j hv]; omega] at h
 show rkD n (mulE es) _=_
 omega
theorem B8J (g:Gok n es) {v:Nat} (hv:v<n) (hG:sizeE es-n+1≤3):B5T n es (A8k n es) (sizeE es-n+1-1) v=wvP n es v:=by
 have h1:=g.h1
 have hpos:=A5r g
 obtain ⟨k,hk⟩:=Int.eq_ofNat_of_zero_le hpos
 have hF:=(B7x g hv hG).pos
 have h:=rr g.hM (by omega) (fun u=>(A4N n v (k:Int)).getD u 0) (B5V g)
 have e:sumR (fun u=>(A4N n v (k:Int)).getD u 0) n=k:=A9P hv
 have e2:rkD n (mulE es) (fun u=>(A4N n v (k:Int)).getD u 0)=rkT n es v k:=rfl
 rw [e,e2] at h
 have hw:B5T n es (A8k n es) (sizeE es-n+1-1) v=true↔win n (mulE es) fun u=>B09 n (mulE es) u-(A4N n v (k:Int)).getD u 0:=by
  unfold B5T
  rw [A9L]
  refine A1C fun u hu=> ?_
  rw [A7b _ _ (by rw [B2R]; exact hu),A7j hu,show sizeE es-n+1-1+1=(k:Int) by omega]
 rw [Bool.eq_iff_iff,hw,←A8H g.hM (by omega)]
 unfold wvP wgt
 rw [decide_eq_true_eq]
 rw [hk,Int.toNat_natCast] at hF
 rw [hk] at h ⊢
 constructor
 ·intro q
  exact hF.2 (by omega)
 ·intro q
  have:=hF.1 q
  omega
end
theorem A9X (g:G):ACall Try.prog 8 [tG g] (A0G true):=by
 have hA:=A8U
 have hF:=A8V g
 cases hs:A4Q g with
 | false=>
  rw [hs] at hF
  clear hs
  obtain ⟨n,es⟩:=g
  refine ACall.of_body Try.func8 rfl (by kernel_rfl) ?_
  simp only [entry,Try.ntmps8,tG]
  refine zU ?_
  refine zR trivial (zc hF (zc hA trivial)) trivial ?_
  simp [A0J,A0I,Blk.cells,ty,Try.results8,A05,A08,toT,A0e,A0c,A0d,A0a,A0G]
 | true=>
  rw [hs] at hF
  unfold A4Q at hs
  rw [Bool.and_eq_true,decide_eq_true_eq] at hs
  obtain ⟨hlow,hj⟩:=hs
  have hs5:=A8j hlow
  have hl:=A47 hs5
  have hck:=(A5s hj).1
  have hn:=B8E hck
  have hg3:=B5U hlow hck
  generalize hnn:g.n.toNat=n at*
  generalize g.es=es at*
  subst hn
  simp only at hg3
  have h:=A7h hs5 hj
  have hsz:=h.sz
  have hGn:=A9Q n es hl hck
  have hpos:=A5r h.g
  by_cases h2:sizeE es-n+1<2
  ·generalize sizeE es-n+1=gg at*
   refine ACall.of_body Try.func8 rfl (by kernel_rfl) ?_
   simp only [entry,Try.ntmps8,tG]
   refine zU ?_
   refine zR (zc @h2 trivial) (zc hF (zc hGn (zc hA trivial))) trivial ?_
   simp [A0J,A0I,Blk.cells,ty,Try.results8,A05,A08,toT,A0e,A0c,A0d,A0a,A0G]
  ·have hC:=B1f h.g (by omega)
   have hcl:=B2R n es
   have hcb:=B70 h
   have hgv:B0b ⟨(n:Int),es⟩ (A8k n es)=0:=by
    unfold B0b
    rw [if_neg (fun q=>q hj)]
    exact B5F h.g.h1 (by have:=h.n5; omega) hcl (A03 hcb (by decide))
   have hD:Dv5 n es (A8k n es):=⟨h,hcl,hcb,by rw [B2Q h.g]; omega⟩
   have hR:=B1a hl (d:=A8k n es) (by have:=h.n5; omega) (fun _=>hD)
   have hV:=A46 hl (A7h hs5) (fun _=>by omega)
   have er:B6a n es (A8k n es)=(A3f (wvP n es) n,0):=by
    unfold B6a
    rw [if_neg (by omega),B8I h.g,if_neg (by omega),A7g fun k hk=>B8J h.g hk hg3]
   rw [er] at hR
   rw [A8i hj (by omega)] at hV
   have hfl:=A7f (wvP n es) n
   have hE:=A4D (A3f (wvP n es) n) (A3f (wvP n es) n) (by have:=h.n5; omega) (by have:=h.n5; omega)
   rw [decide_eq_true rfl] at hE
   clear hD er hgv hcb hcl hs5 hlow
   generalize A3f (wvP n es) n=L at*
   generalize A8k n es=K at*
   generalize sizeE es-n+1=gg at*
   refine ACall.of_body Try.func8 rfl (by kernel_rfl) ?_
   simp only [entry,Try.ntmps8,tG]
   refine zU ?_
   refine zR (zc @h2 trivial) (zc hF (zc hGn (zc hC (zc hR (zc hV (zc hE (zc hA trivial))))))) trivial ?_
   simp [A0J,A0I,Blk.cells,ty,Try.results8,A05,A08,toT,A0e,A0c,A0d,A0a,A0G]
theorem B71 {v:Int} {n:Nat} (hv:0≤v) (hn:0<n):v.tmod (n:Int)=((v.toNat%n:Nat):Int):=by
 obtain ⟨k,rfl⟩:=Int.eq_ofNat_of_zero_le hv
 rw [Int.toNat_natCast,Int.tmod_eq_emod_of_nonneg (by omega)]
 exact (Int.natCast_emod k n).symm
theorem B9A (g:G) (x:Int) (hx:0≤x∧x≤255):ACall Try.prog 6 [tG g,.t (.int .u8 x)] (A0G true):=by
 have hA:=A8U
 have hF:=A8V g
 cases hs:A4Q g with
 | false=>
  rw [hs] at hF
  clear hs
  obtain ⟨n,es⟩:=g
  refine ACall.of_body Try.func6 rfl (by kernel_rfl) ?_
  simp only [entry,Try.ntmps6,tG]
  refine zU ?_
  refine zR trivial (zc hF (zc hA trivial)) trivial ?_
  simp [A0J,A0I,Blk.cells,ty,Try.results6,A05,A08,toT,A0e,A0c,A0d,A0a,A0G]
 | true=>
  rw [hs] at hF
  unfold A4Q at hs
  rw [Bool.and_eq_true,decide_eq_true_eq] at hs
  obtain ⟨hlow,hj⟩:=hs
  have hs5:=A8j hlow
  have hl:=A47 hs5
  have hck:=(A5s hj).1
  have hn:=B8E hck
  have hg3:=B5U hlow hck
  generalize hnn:g.n.toNat=n at*
  generalize g.es=es at*
  subst hn
  simp only at hg3
  have h:=A7h hs5 hj
  have h1:=h.g.h1
  have hGn:=A9Q n es hl hck
  have hpos:=A5r h.g
  have hkn:x.toNat%n<n:=Nat.mod_lt _ (by omega)
  have htm:=B71 (v:=x) (n:=n) hx.1 (by omega)
  have hRk:=A8g hl (A7h hs5) (((x.toNat%n:Nat)):Int) (2*(sizeE es-n+1)+1) (by omega)
  rw [A8h (B7K hj hkn) (by omega),Int.toNat_natCast] at hRk
  have r0:=A9V h.g hkn
  have rm:=fun k=>B2O h.g hkn k
  have ru:=fun k=>B7O h.g hkn k
  have rl:=fun k=>B1b h.g hkn (k:=k)
  have hal:=A4O n es (x.toNat%n) ((2*(sizeE es-n+1)+1).toNat+1)
  have hag:=fun k=>A8O (n:=n) (es:=es) (v:=x.toNat%n) (N:=(2*(sizeE es-n+1)+1).toNat+1) (k:=k)
  have hrb:=fun k=>B5N h.g hkn k
  have hN:(((2*(sizeE es-n+1)+1).toNat+1:Nat):Int)=2*(sizeE es-n+1)+2:=by omega
  have hGb:0≤sizeE es-n+1∧sizeE es-n+1≤3:=⟨hpos,hg3⟩
  generalize (2*(sizeE es-n+1)+1).toNat+1=N at*
  generalize rkT n es (x.toNat%n)=r at*
  generalize A1b n es (x.toNat%n) N=L at*
  generalize sizeE es-n+1=gg at*
  generalize x.toNat%n=k0 at*
  have hn0: ¬(n:Int)=0:=by omega
  have hll: ¬(L.length:Int)≠2*gg+2:=by omega
  have hg0:=A0T (hag 0 (by omega))
  rw [r0] at hg0
  refine ACall.of_body Try.func6 rfl (by kernel_rfl) ?_
  simp only [entry,Try.ntmps6,tG]
  refine zU ?_
  refine zR (zc @htm (zc @hn0 (zc @A0l (zc @hal (zc @hN (zc @hg0 (zc @Int.toNat_zero trivial))))))) (zc hF (zc hGn (zc hRk trivial))) trivial ?_
  refine AWp.loopS (α:=Nat) 91 (fun k=>[(2,.c (.ptr 0 0)),(5,.c (.int .i64 gg)),(6,.c (.slice (A0q L) .none)),(8,.c (.int .i64 (k:Int)))]) (fun k=>[.box [.int .i64 (n:Int),.slice (A0b es) .none]]) (fun k=>1≤k∧k≤N) (fun k=>N-k) (1) (hk:=A0r.headL 1 91 [2,5,6,8] zW) (h0:=?_) (round:=fun k hI=>?_)
  ·exact ⟨Nat.le_refl _,by omega⟩
  ·obtain ⟨hk1,hk⟩:=hI
   by_cases hkl:k<N
   ·have hkI:(k:Int)<(N:Int):=by omega
    have hkG:(k:Int)<2*gg+2:=by omega
    have ga:=A0T (hag k hkl)
    have gb:=A0T (hag (k-1) (by omega))
    have hkm:((k:Int)-1).toNat=k-1:=by omega
    have m1:=rm (k-1)
    have u1:=ru (k-1)
    rw [show k-1+1=k by omega] at m1 u1
    have b1:=hrb k
    have b2:=hrb (k-1)
    have hlg:=rl k
    clear rm ru hrb rl hag hg0
    by_cases hbig:(k:Int)>2*gg-2
    ·have hrk:=hlg (by omega)
     rw [hrk] at ga m1 u1
     clear hrk hlg
     generalize r (k-1)=y at*
     have c1: ¬(k:Int)-gg<y:=by omega
     have c2: ¬(k:Int)-gg>y+1:=by omega
     refine zR (zc @hkI (zc @hkG (zc @ga (zc @gb (zc @hkm (zc @c1 (zc @c2 (zc @hbig (zc @A0l (zc @hal (zc @hN trivial))))))))))) trivial trivial ?_
     refine ⟨k+1,A0r.headN 1 91 [2,5,6,8] zW,?_,?_⟩
     ·exact ⟨by omega,hkl⟩
     ·omega
    ·clear hlg
     generalize r k=z at*
     generalize r (k-1)=y at*
     have c1: ¬z<y:=by omega
     have c2: ¬z>y+1:=by omega
     refine zR (zc @hkI (zc @hkG (zc @ga (zc @gb (zc @hkm (zc @c1 (zc @c2 (zc @hbig (zc @A0l (zc @hal (zc @hN trivial))))))))))) trivial trivial ?_
     refine ⟨k+1,A0r.headN 1 91 [2,5,6,8] zW,?_,?_⟩
     ·exact ⟨by omega,hkl⟩
     ·omega
   ·have hnl: ¬(k:Int)<(N:Int):=by omega
    have hnG: ¬(k:Int)<2*gg+2:=by omega
    refine zR (zc @hnl (zc @hnG (zc @A0l (zc @hal (zc @hN trivial))))) (zc hA trivial) trivial ?_
    simp [A0J,A0I,Blk.cells,ty,Try.results6,A05,A08,toT,A0e,A0c,A0d,A0a,A0G]
end Go.Proofs.Ytdhfgihnoimoaaa
