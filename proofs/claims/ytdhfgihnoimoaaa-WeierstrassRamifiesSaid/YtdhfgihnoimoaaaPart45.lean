/- A part of the proof. -/
import Derived.Test.YtdhfgihnoimoaaaLayerC
import Derived.Test.YtdhfgihnoimoaaaPart43
import Derived.Test.YtdhfgihnoimoaaaPart44
set_option linter.all false
set_option maxHeartbeats 4000000
set_option maxRecDepth 100000
namespace Go.Proofs.Ytdhfgihnoimoaaa
open Go.Sp
theorem B1a {n:Nat} {es:List E} (h:Sm5 n es) {v:Nat} (hv:v<n) {N:Nat} (hN:N≤20):ACall Try.prog 31 [tG ⟨(n:Int),es⟩,A0g v,A0g N] (.tup [A0m (A1e n es v (N+1)),A0g 0]):=by
 have hA:=B7n ⟨(n:Int),es⟩ (v:Int)
 have hIt:=B5T h hv (N:=N+1) (by omega)
 have hal:=fun k=>A64 n es v k
 have hz:A1e n es v 0=[]:=rfl
 have hsc:=fun k=>B2g n es v k
 refine ACall.of_body Try.func31 rfl (by kernel_rfl) ?_
 simp only [entry,Try.ntmps31,tG,A0g]
 refine zU ?_
 refine zJ (stop 2) trivial trivial trivial trivial ?_
 refine AWp.weak (A0s.openB 4 0 1 rfl rfl (by omega)) ?_
 simp only [List.set_cons_succ,List.set_cons_zero,List.length_cons,List.length_nil,List.length_append,Nat.reduceAdd,List.cons_append,List.nil_append]
 repeat' ((fail_if_success (with_reducible refine AWp.atSeq 99 ?_));(fail_if_success (with_reducible refine AWp.atLast 99 ?_));first|((first|(refine zT ?_;intro K' hK')|(refine zG ?_ ?_<;>(try refine zH ?_)<;>intro hguard<;>(try exact zX)<;>try intro K' hK'))<;>((try simp+contextual only [go_sem,tG,ofT,A3i,A0x,List.map_cons,List.map_nil]);(repeat' first|(with_reducible refine hK' _ _ ?_;clear hK' K')|(with_reducible refine zK hA ?_;try simp+contextual only [go_sem,tG,ofT,A3i,A0x,List.map_cons,List.map_nil])|exact zY|with_reducible refine And.intro ?_ ?_|(with_reducible intro hpath;try exact zP)|(refine hK' _ _ ?_;clear hK' K')|fail);try refine zS ?_))|(refine zE ?_;refine hK _ _ ?_;clear hK K)|(refine zN ?_;try refine zS ?_)|refine zA ?_|(refine zB ?_;intro K hK)|(refine zC ?_ ?_<;>(try refine zH ?_)<;>intro hcond<;>try exact zX)|fail)
 refine AWp.weak (A0s.head (m:=6) (by omega) ((fun t f=>[f,f,f,t,f,t,t,t,t,f,f,f,f,t,f,f,f,f,f,f,f,f,f,f,f,f,f,f]) true false) (by first | rfl | simp [mask]) (by first | rfl | simp) (by (repeat' (first | exact A0q _ | refine A0n ?_ ?_ | refine A0h ?_ ?_ | exact A0l _ | exact True.intro | (show _<_; omega) | (intro c hc; cases hc; done) | (intro c hc; simp only [List.mem_cons,List.not_mem_nil,or_false] at hc; subst hc; first | exact True.intro | (show _<_; omega)) | (intro c hc; simp only [List.mem_cons,List.not_mem_nil,or_false] at hc; rcases hc with rfl | rfl<;>first | exact True.intro | (show _<_; omega))))) (by (repeat' (first | exact A0q _ | exact A04 _ | exact A0l _ | refine And.intro ?_ ?_ | refine A0n ?_ ?_ | refine A0i ?_ ?_ | refine A0h ?_ ?_ | exact True.intro | exact A0o | exact A0j | (show _<_; omega) | exact A01 (fun _=>True.intro) | (intro c hc; cases hc; done) | (intro c hc; simp only [List.mem_cons,List.not_mem_nil,or_false] at hc; subst hc; first | exact True.intro | exact A0o | exact A0j | (show _<_; omega)) | (intro c hc; simp only [List.mem_cons,List.not_mem_nil,or_false] at hc; rcases hc with rfl | rfl<;>first | exact True.intro | exact A0o | exact A0j | (show _<_; omega)))))) (AWp.rangeFuncB (fun k H=>H=[.box [.int .i64 (n:Int),.slice (A0b es) .none],.box [.int .i64 (N:Int)],.box [.nils],.box [.int .i64 0],.box [.slice (A0p (A1e n es v k)) (.chain 5)],.chain (A1e n es v k).length 1]∧(k≤N)) (fun e H=>e= .exit 0∧H=[.box [.int .i64 (n:Int),.slice (A0b es) .none],.box [.int .i64 (N:Int)],.box [.nils],.box [.int .i64 0],.box [.slice (A0p (A1e n es v (N+1))) (.chain 5)],.chain (A1e n es v (N+1)).length 1]) 6 rfl (⟨hIt,fun H q=>by obtain ⟨_,q2⟩:=q; rw [A4P] at q2; omega⟩) (fun k ts hts=>by obtain ⟨_,rfl⟩:=A8R hts; rfl) (by omega) (by (repeat' (first | exact A0q _ | refine A0n ?_ ?_ | refine A0h ?_ ?_ | exact A0l _ | exact True.intro | (show _<_; omega) | (intro c hc; cases hc; done) | (intro c hc; simp only [List.mem_cons,List.not_mem_nil,or_false] at hc; subst hc; first | exact True.intro | (show _<_; omega)) | (intro c hc; simp only [List.mem_cons,List.not_mem_nil,or_false] at hc; rcases hc with rfl | rfl<;>first | exact True.intro | (show _<_; omega))))) (by rintro _ _ ⟨rfl,-⟩; simp) ?_ ?_ (fun l k ts H hts hI=> ?_) (fun H hI=> ?_) (fun e H hX=> ?_))
 ·rintro _ _ ⟨-,rfl⟩; simp
 ·exact ⟨by rw [hz]; rfl,Nat.zero_le _⟩
 ·obtain ⟨rfl,hk⟩:=hI
  obtain ⟨hkl,rfl⟩:=A8R hts
  have hs:=hsc k
  have hl0:=hal k
  have hl1:=hal (k+1)
  generalize rkT n es v k=r at*
  by_cases hkN:k=N
  ·rw [hkN] at hs hl0 hl1 ⊢
   clear hsc hal hIt
   generalize hA1:A1e n es v (N+1)=A1 at*
   generalize A1e n es v N=A0 at*
   have hgt:(N:Int)+1>(N:Int):=by omega
   simp only [mask,A53,List.zip_cons_cons,List.zip_nil_right,List.zip_nil_left,List.foldl_cons,List.foldl_nil,List.set_cons_succ,List.set_cons_zero,ofT,A3i,A0x,List.map_cons,List.map_nil,ofT,A3i,toT,A05,A0a,A0g,A09,A5l,tG,A5E,A0m,A37]
   repeat' (first|((first|(refine zT ?_;intro K' hK')|(refine zG ?_ ?_<;>(try refine zH ?_)<;>intro hguard<;>(try exact zX)<;>try intro K' hK'))<;>((try simp+contextual only [go_sem,A0f,A1G,hl0,hgt,List.length_append,List.length_cons,List.length_nil,chunks,List.range,List.range.loop]);(repeat' first|(with_reducible refine hK' _ _ ?_;clear hK' K')|(with_reducible exact A1w (by assumption))|exact zY|with_reducible refine And.intro ?_ ?_|(with_reducible intro hpath;try exact zP)|(refine hK' _ _ ?_;clear hK' K')|fail);try refine zS ?_))|(refine zE ?_;refine hK _ _ ?_;clear hK K)|(refine zN ?_;try refine zS ?_)|refine zA ?_|(refine zB ?_;intro K hK)|(refine zC ?_ ?_<;>(try refine zH ?_)<;>intro hcond<;>try exact zX)|fail)
   rw [←hs]
   refine ⟨⟨_,_⟩,A0s.head2 (m:=6) (by decide) ((fun t f=>[f,f,f,f,f,f,f,f,f,f,f,f,f,f,f,f,f,f,f,f,f,f,f,f,f,f,f,f]) true false) rfl rfl (zV2 @A0o @A0j),?_,?_⟩
   ·rfl
   ·rw [hl1]; rfl
  ·
   have hlt: ¬((k:Int)+1>(N:Int)):=by omega
   clear hsc hal hIt
   generalize hA1:A1e n es v (k+1)=A1 at*
   generalize A1e n es v k=A0 at*
   have hln:A0.length+1=A1.length:=by omega
   simp only [mask,A53,List.zip_cons_cons,List.zip_nil_right,List.zip_nil_left,List.foldl_cons,List.foldl_nil,List.set_cons_succ,List.set_cons_zero,ofT,A3i,A0x,List.map_cons,List.map_nil,ofT,A3i,toT,A05,A0a,A0g,A09,A5l,tG,A5E,A0m,A37]
   repeat' (first|((first|(refine zT ?_;intro K' hK')|(refine zG ?_ ?_<;>(try refine zH ?_)<;>intro hguard<;>(try exact zX)<;>try intro K' hK'))<;>((try simp+contextual only [go_sem,A0f,A1G,hl0,hlt,List.length_append,List.length_cons,List.length_nil,chunks,List.range,List.range.loop]);(repeat' first|(with_reducible refine hK' _ _ ?_;clear hK' K')|(with_reducible exact A1w (by assumption))|exact zY|with_reducible refine And.intro ?_ ?_|(with_reducible intro hpath;try exact zP)|(refine hK' _ _ ?_;clear hK' K')|fail);try refine zS ?_))|(refine zE ?_;refine hK _ _ ?_;clear hK K)|(refine zN ?_;try refine zS ?_)|refine zA ?_|(refine zB ?_;intro K hK)|(refine zC ?_ ?_<;>(try refine zH ?_)<;>intro hcond<;>try exact zX)|fail)
   rw [←hs]
   refine ⟨⟨_,_⟩,A0s.head2 (m:=6) (by decide) ((fun t f=>[f,f,f,f,f,f,f,f,f,f,f,f,f,f,f,f,f,f,f,f,f,f,f,f,f,f,f,f]) true false) rfl rfl (zV2 @A0o @A0j),?_,?_⟩
   ·rw [hA1,hl1]; rfl
   ·omega
 ·obtain ⟨-,q⟩:=hI
  rw [A4P] at q
  omega
 ·obtain ⟨rfl,rfl⟩:=hX
  clear hsc hal hIt
  generalize A1e n es v (N+1)=A1 at*
  simp only [mask]
  refine zR trivial trivial trivial ?_
  simp [A0E,A0C,Blk.cells,ty,Try.results31,A0y,A05,toT,A0e,A0c,A0d,A0a,A0g,A0m]
theorem B1b {n:Nat} {es:List E} (hl:es.length≤40) (hs:A0D ⟨(n:Int),es⟩=0→Sm5 n es) (v N:Int) (hN:N≤11∨12<N):ACall Try.prog 11 [tG ⟨(n:Int),es⟩,A0g v,A0g N] (.tup [A0m (A4Y n es v N).1,A0g (A4Y n es v N).2]):=by
 have hG:=B7J ⟨(n:Int),es⟩ v hl
 by_cases hv:A8O ⟨(n:Int),es⟩ v=0
 ·obtain ⟨hj,k,rfl,hk⟩:=A9K hv
  by_cases hNr:N<0∨12<N
  ·have e:A4Y n es k N=([],2):=by unfold A4Y; rw [if_neg (by omega),if_pos hNr]
   rw [e]
   rw [hv] at hG
   by_cases h1:N<0
   ·
    refine ACall.of_body Try.func11 rfl (by kernel_rfl) ?_
    simp only [entry,Try.ntmps11,tG,A0g]
    refine zU ?_
    refine zR (zc @h1 trivial) (zc hG trivial) trivial ?_
    simp [A0E,A0C,Blk.cells,ty,Try.results11,A0y,A05,toT,A0e,A0c,A0d,A0a,A0g,A0m,A0p]
   ·have h2:N>12:=by omega
    refine ACall.of_body Try.func11 rfl (by kernel_rfl) ?_
    simp only [entry,Try.ntmps11,tG,A0g]
    refine zU ?_
    refine zR (zc @h1 (zc @h2 trivial)) (zc hG trivial) trivial ?_
    simp [A0E,A0C,Blk.cells,ty,Try.results11,A0y,A05,toT,A0e,A0c,A0d,A0a,A0g,A0m,A0p]
  ·have e:A4Y n es k N=(A1e n es k (N.toNat+1),0):=by unfold A4Y; rw [if_neg (by omega),if_neg hNr]; rfl
   rw [e]
   rw [hv] at hG
   have h1: ¬N<0:=by omega
   have h2: ¬N>12:=by omega
   have hA:=B1a (hs hj) hk (N:=N.toNat) (by omega)
   rw [show ((N.toNat:Nat):Int)=N by omega] at hA
   generalize A1e n es k (N.toNat+1)=l at*
   refine ACall.of_body Try.func11 rfl (by kernel_rfl) ?_
   simp only [entry,Try.ntmps11,tG,A0g]
   refine zU ?_
   refine zR (zc @h1 (zc @h2 trivial)) (zc hG (zc hA trivial)) trivial ?_
   simp [A0E,A0C,Blk.cells,ty,Try.results11,A0y,A05,toT,A0e,A0c,A0d,A0a,A0g,A0m]
 ·have e:A4Y n es v N=([],A8O ⟨(n:Int),es⟩ v):=by unfold A4Y; rw [if_pos hv]
  rw [e]
  generalize A8O ⟨(n:Int),es⟩ v=er at*
  refine ACall.of_body Try.func11 rfl (by kernel_rfl) ?_
  simp only [entry,Try.ntmps11,tG,A0g]
  refine zU ?_
  refine zR (zc @hv trivial) (zc hG trivial) trivial ?_
  simp [A0E,A0C,Blk.cells,ty,Try.results11,A0y,A05,toT,A0e,A0c,A0d,A0a,A0g,A0m,A0p]
theorem B1c {n:Nat} {es:List E} (g:Gok n es) (hs:sizeE es≤1000):ACall Try.prog 35 [tG ⟨(n:Int),es⟩] (.tup [A0g (if 6<sizeE es-n+1 then 0 else sizeE es-n+1),A0g (if 6<sizeE es-n+1 then 12 else 0)]):=by
 obtain ⟨es2,l2,hlim,hc2,hgen,_⟩:=B5O g
 have hl:=g.hl
 have hL:ACall Try.prog 58 [tG ⟨(n:Int),es⟩] (.tup [tG ⟨(n:Int),es2⟩,A0g 0]):=by
  have:=A7T ⟨(n:Int),es⟩ (by show es.length<_; omega)
  rw [g.hc,hlim] at this; exact this
 have hG:ACall Try.prog 59 [tG ⟨(n:Int),es2⟩] (.tup [A0g (sizeE es-n+1),A0g 0]):=by
  have:=B25 ⟨(n:Int),es2⟩ (by show es2.length<_; omega)
  rw [hc2] at this
  rw [←hgen]; exact this
 clear hlim hc2 hgen
 generalize sizeE es-n+1=gg at*
 by_cases h6:6<gg
 ·rw [if_pos h6,if_pos h6]
  refine ACall.of_body Try.func35 rfl (by kernel_rfl) ?_
  simp only [entry,Try.ntmps35,tG]
  refine zU ?_
  refine zR (zc @h6 trivial) (zc hL (zc hG trivial)) trivial ?_
  simp [A0E,A0C,Blk.cells,ty,Try.results35,A0y,A05,toT,A0e,A0c,A0d,A0a,A0g]
 ·rw [if_neg h6,if_neg h6]
  refine ACall.of_body Try.func35 rfl (by kernel_rfl) ?_
  simp only [entry,Try.ntmps35,tG]
  refine zU ?_
  refine zR (zc @h6 trivial) (zc hL (zc hG trivial)) trivial ?_
  simp [A0E,A0C,Blk.cells,ty,Try.results35,A0y,A05,toT,A0e,A0c,A0d,A0a,A0g]
theorem A9N {n:Nat} {es:List E} (hl:es.length≤40) (hs:A0D ⟨(n:Int),es⟩=0→Sm5 n es) (v:Int):ACall Try.prog 15 [tG ⟨(n:Int),es⟩,A0g v] (.tup [A0m (A3u n es v).1,A0g (A3u n es v).2]):=by
 have hG:=B7J ⟨(n:Int),es⟩ v hl
 by_cases hv:A8O ⟨(n:Int),es⟩ v=0
 ·obtain ⟨hj,k0,rfl,hk0⟩:=A9K hv
  have h:=hs hj
  have hz:=h.sz
  have hGn:=B1c h.g (by omega)
  have hpos:=B2f h.g
  have h5:=h.n5
  rw [hv] at hG
  by_cases h6:6<sizeE es-n+1
  ·have e:A3u n es k0=([],12):=by unfold A3u; rw [if_neg (by omega),if_pos h6]
   rw [e]
   rw [if_pos h6,if_pos h6] at hGn
   refine ACall.of_body Try.func15 rfl (by kernel_rfl) ?_
   simp only [entry,Try.ntmps15,tG,A0g]
   refine zU ?_
   refine zR trivial (zc hG (zc hGn trivial)) trivial ?_
   simp [A0E,A0C,Blk.cells,ty,Try.results15,A0y,A05,toT,A0e,A0c,A0d,A0a,A0g,A0m,A0p]
  ·have e:A3u n es k0=(A2d n es k0,0):=by unfold A3u; rw [if_neg (by omega),if_neg h6]; rfl
   rw [e]
   rw [if_neg h6,if_neg h6] at hGn
   have hf1:(max (2*(sizeE es-n+1)-1) 0).toNat≤20:=by omega
   have hA:=B1a h hk0 (N:=(max (2*(sizeE es-n+1)-1) 0).toNat) hf1
   have hmx:((max (2*(sizeE es-n+1)-1) 0).toNat:Int)=max 0 (2*(sizeE es-n+1)-1):=by omega
   have hfN:(max (2*(sizeE es-n+1)-1) 0).toNat+1=A9V (sizeE es-n+1):=rfl
   rw [hmx,hfN] at hA
   have hNl:A9V (sizeE es-n+1)≤12:=by unfold A9V; omega
   have hN1:1≤A9V (sizeE es-n+1):=by unfold A9V; omega
   have hNG: ∀k:Nat,1≤k→(k<A9V (sizeE es-n+1)↔(k:Int)<2*(sizeE es-n+1)):=fun k hk=>by unfold A9V; omega
   have hgl2:A2d n es k0=A6M (A1e n es k0 (A9V (sizeE es-n+1))) (A9V (sizeE es-n+1)):=rfl
   rw [hgl2]
   have hlen:=A64 n es k0 (A9V (sizeE es-n+1))
   clear hgl2 hfN hmx hf1 e hs
   generalize A1e n es k0 (A9V (sizeE es-n+1))=l at*
   generalize A9V (sizeE es-n+1)=N at*
   have hGb:0≤sizeE es-n+1∧sizeE es-n+1≤6:=by omega
   generalize sizeE es-n+1=gg at*
   have hgl:=fun k=>A9J l k
   have hg1:A6M l 1=[]:=by unfold A6M A6M; rw [if_neg (by omega)]
   refine ACall.of_body Try.func15 rfl (by kernel_rfl) ?_
   simp only [entry,Try.ntmps15,tG,A0g]
   refine zU ?_
   refine zJ (stop 11) trivial (zc hG (zc hGn (zc hA trivial))) trivial trivial ?_
   refine AWp.weak (A0s.opens ((fun t f=>[f,f,f,f,f,f,f,f,f,f,t,f,f,f,f,f,f,f,f,f,f,f,f,f,f,f,f,f,f,f,f,f,f,f,f,f,f,f,f,f,f,f,f,f,f,f,f,f,f,f,f,f,f,f,f,f,f,f,f,f]) true false) 1 (by first | omega | simp)) ?_
   simp only [A2U,A9k,List.length_cons,List.length_nil,List.length_append,Nat.reduceAdd,List.cons_append,List.nil_append]
   refine zR trivial trivial trivial ?_
   refine AWp.loopS (α:=Nat) 60 (fun k=>[(7,.c (.int .i64 gg)),(9,.c (.slice (A0p l) .none)),(10,.c (.slice (A0p (A6M l k)) (.chain 1))),(11,.c (.int .i64 (k:Int)))]) (fun k=>[.box [.int .i64 (n:Int),.slice (A0b es) .none],.chain (A6M l k).length 1]) (fun k=>1≤k∧k≤N) (fun k=>N-k) (1) (hk:=A0s.headL 2 60 [7,9,10,11] (zV2 @A0o @A0j)) (h0:=?_) (round:=fun k hI=>?_)
   ·exact ⟨Nat.le_refl _,hN1⟩
   ·obtain ⟨hk1,hk⟩:=hI
    by_cases hkl:k<N
    ·have hkI:=(hNG k hk1).1 hkl
     have hg:=A0P (A0u (d:=l) (i:=k) (by omega))
     have hg':=A0P (A0u (d:=l) (i:=k-1) (by omega))
     have hkm:((k:Int)-1).toNat=k-1:=by omega
     have hgn:=hgl k
     have hp:=B7k (l:=l) hk1
     have hn:=B7l (l:=l) (k:=k)
     clear hgl hNG
     generalize l.getD k 0=x at*
     generalize l.getD (k-1) 0=y at*
     generalize hS1:A6M l (k+1)=S1 at*
     generalize A6M l k=S0 at*
     by_cases hxy:x=y
     ·have hp':=hp hxy
      have hln:S1.length=S0.length+1:=by rw [hp']; simp
      refine zRc (zc @hkI (zc @hg (zc @hg' (zc @hkm (zc @hxy (zc @A0f (zc @A1G (zc @hlen trivial)))))))) trivial @A1w ?_
      rw [←hp']
      refine ⟨k+1,A0s.headF 2 60 [7,9,10,11] (zc @hS1 (zc @hln trivial)) (zV2 @A0o @A0j),?_,?_⟩
      ·exact ⟨by omega,hkl⟩
      ·omega
     ·have hn':=hn hxy
      refine zR (zc @hkI (zc @hg (zc @hg' (zc @hkm (zc @hxy (zc @A0f (zc @hlen trivial))))))) trivial trivial ?_
      refine ⟨k+1,A0s.headF 2 60 [7,9,10,11] (zc @hS1 (zc @hn' trivial)) (zV2 @A0o @A0j),?_,?_⟩
      ·exact ⟨by omega,hkl⟩
      ·omega
    ·have hnl: ¬(k:Int)<2*gg:=fun q=>hkl ((hNG k hk1).2 q)
     have ek:k=N:=by omega
     clear hNG
     rw [ek]
     rw [ek] at hnl
     clear hgl
     generalize A6M l N=S0 at*
     refine zR (zc @hnl trivial) trivial trivial ?_
     simp [A0E,A0C,Blk.cells,ty,Try.results15,A0y,A05,toT,A0e,A0c,A0d,A0a,A0g,A0m]
 ·have e:A3u n es v=([],A8O ⟨(n:Int),es⟩ v):=by unfold A3u; rw [if_pos hv]
  rw [e]
  generalize A8O ⟨(n:Int),es⟩ v=er at*
  refine ACall.of_body Try.func15 rfl (by kernel_rfl) ?_
  simp only [entry,Try.ntmps15,tG,A0g]
  refine zU ?_
  refine zR (zc @hv trivial) (zc hG trivial) trivial ?_
  simp [A0E,A0C,Blk.cells,ty,Try.results15,A0y,A05,toT,A0e,A0c,A0d,A0a,A0g,A0m,A0p]
theorem A8S {n:Nat} {es:List E} (hl:es.length≤40) (hs:A0D ⟨(n:Int),es⟩=0→Sm5 n es) (v:Int):ACall Try.prog 17 [tG ⟨(n:Int),es⟩,A0g v] (.tup [A0g (A3v n es v).1,A0g (A3v n es v).2]):=by
 have hGp:=A9N hl hs v
 by_cases he:(A3u n es v).2=0
 ·have e:A3v n es v=(wgt n es v.toNat,0):=by unfold A3v; rw [if_neg (by omega)]
  rw [e]
  have hv:A8O ⟨(n:Int),es⟩ v=0:=by
   refine Classical.byContradiction fun h=> ?_
   unfold A3u at he
   rw [if_pos h] at he
   exact h he
  obtain ⟨hj,k,rfl,hk⟩:=A9K hv
  have h:=hs hj
  have hz:=h.sz
  have hGn:=B1c h.g (by omega)
  have h6: ¬6<sizeE es-n+1:=fun h=>by
   unfold A3u at he
   rw [if_neg (by omega),if_pos h] at he
   cases he
  rw [if_neg h6,if_neg h6] at hGn
  have hg:A3u n es k=(A2d n es k,0):=by unfold A3u; rw [if_neg (by omega),if_neg h6]; rfl
  rw [hg] at hGp
  have hpos:=B2f h.g
  obtain ⟨b1,b2⟩:=B5S (n:=n) (es:=es) (v:=k) (by omega)
  obtain ⟨t1,t2,t3,t4,t5,t6⟩:=B7m (G:=sizeE es-n+1) (by omega)
  have hw:wgt n es (k:Int).toNat=B5w (A2d n es k)-B2h (sizeE es-n+1):=rfl
  rw [hw]
  have t7: -(sizeE es-n+1)*(sizeE es-n+1+1)= -((sizeE es-n+1)*(sizeE es-n+1+1)):=Int.neg_mul _ _
  rw [t7] at t6
  have h2: ¬(2:Int)=0:=by decide
  have hfin:sumD (A2d n es k) (A2d n es k).length=B5w (A2d n es k):=B5U rfl
  rw [←hfin]
  have hsb:=fun i=>A4N b2 i
  have hs0:sumD (A2d n es k) 0=0:=rfl
  have hsn: ∀i,sumD (A2d n es k) (i+1)=sumD (A2d n es k) i+(A2d n es k).getD i 0:=fun i=>rfl
  have hsd: ∀i,sumR (fun v=>(A2d n es k).getD v 0) i=sumD (A2d n es k) i:=fun i=>rfl
  simp only [hsd] at hsb
  clear hfin hsd hs
  generalize A2d n es k=l at*
  generalize B2h (sizeE es-n+1)=t at*
  generalize sizeE es-n+1=gg at*
  have hz0: -t=sumD l 0-t:=by rw [hs0]; omega
  refine ACall.of_body Try.func17 rfl (by kernel_rfl) ?_
  simp only [entry,Try.ntmps17,tG,A0g]
  refine zU ?_
  refine zR (zc @t6 (zc @t7 (zc @A0f trivial))) (zc hGp (zc hGn trivial)) trivial ?_
  rw [hz0]
  refine AWp.loopS (α:=Nat) 46 (fun i=>[(9,.c (.int .i64 (sumD l i-t))),(35,.c (.slice (A0p l) .none)),(36,.c (.int .i64 (l.length:Int))),(37,.c (.int .i64 (i:Int)))]) (fun i=>[]) (fun i=>i≤l.length) (fun i=>l.length-i) (0) (hk:=A0s.headL 0 46 [9,35,36,37] (zV2 @A0o @A0j)) (h0:=?_) (round:=fun i hI=>?_)
  ·exact Nat.zero_le _
  ·have hi:i≤l.length:=hI
   clear hI
   by_cases hil:i<l.length
   ·have hiI:(i:Int)<(l.length:Int):=by omega
    have hgx:=A0P (A0u (d:=l) (i:=i) hil)
    have hx:=b2 i
    have hsi:=hsb i
    have hnx:=hsn i
    clear hsb hsn
    generalize hN1:sumD l (i+1)=N1 at*
    generalize sumD l i=N0 at*
    generalize l.getD i 0=x at*
    have e3:N0-t+x=N1-t:=by omega
    refine zR (zc @hiI (zc @hgx (zc @e3 (zc @A0f (zc @Nat.zero_add trivial))))) trivial trivial ?_
    refine ⟨i+1,A0s.headF 0 46 [9,35,36,37] (zc @hN1 trivial) (zV2 @A0o @A0j),?_,?_⟩
    ·exact hil
    ·omega
   ·have hnl: ¬(i:Int)<(l.length:Int):=by omega
    have ei:i=l.length:=by omega
    rw [ei]
    rw [ei] at hnl
    clear hsb hsn
    generalize sumD l l.length=S at*
    refine zR (zc @hnl trivial) trivial trivial ?_
    simp [A0E,A0C,Blk.cells,ty,Try.results17,A0y,A05,toT,A0e,A0c,A0d,A0a,A0g]
 ·have e:A3v n es v=(0,(A3u n es v).2):=by unfold A3v; rw [if_pos he]
  rw [e]
  generalize A3u n es v=p at*
  obtain ⟨l,er⟩:=p
  simp only at he hGp ⊢
  refine ACall.of_body Try.func17 rfl (by kernel_rfl) ?_
  simp only [entry,Try.ntmps17,tG,A0g]
  refine zU ?_
  refine zR (zc @he trivial) (zc hGp trivial) trivial ?_
  simp [A0E,A0C,Blk.cells,ty,Try.results17,A0y,A05,toT,A0e,A0c,A0d,A0a,A0g,A0m]
end Go.Proofs.Ytdhfgihnoimoaaa
