/- A part of the proof. -/
import Derived.Test.YtdhfgihnoimoaaaLayerC
import Derived.Test.YtdhfgihnoimoaaaPart43
import Derived.Test.YtdhfgihnoimoaaaPart37
import Derived.Test.YtdhfgihnoimoaaaLayerD
import Derived.Test.YtdhfgihnoimoaaaPart07
set_option linter.all false
set_option maxHeartbeats 4000000
set_option maxRecDepth 100000
namespace Go.Proofs.Ytdhfgihnoimoaaa
open Go.Sp
theorem B3T {m:Nat} {f:FuncId} {a b c:Tree}:A9p m (.c (.fn f [.tree a,.tree b,.tree c])):=by
 intro x hx
 simp only [List.mem_cons,List.not_mem_nil,or_false] at hx
 rcases hx with rfl | rfl | rfl<;>exact True.intro
theorem B87 {n:Nat} {es:List E} (h12:n≤12) (p:Nat→Bool) (hk: ∀(H:List Blk) (v:Nat),v<n→ACallH Try.prog 40 H [.c (.int .i64 (v:Int)),.c (.rptr [.int .i64 (n:Int),.slice (A0b es)])] H (.tup [.c (.bool (p v)),.c (.int .i64 0)])):
  ACallX Try.prog 39 [] [ofT (tG ⟨(n:Int),es⟩),ofT (.t (.fn 40 [.rptr [.int .i64 (n:Int),.slice (A0b es)]]))] (.tup [A00 (A3f p n),A0j 0]):=by
 have hfl:=fun k=>A7f p k
 have hz:A3f p 0=[]:=rfl
 have hall: ∀l:List Int,(A0q l).all A2U=true:=fun l=>by rw [List.all_eq_true]; intro r hr; obtain ⟨x,_,rfl⟩:=List.mem_map.1 hr; rfl
 refine ACallX.of_body Try.func39 rfl (by kernel_rfl) (by simp [isMap]) ?_
 simp only [entry,Try.ntmps39,ofT,A2G,A0s,List.map_cons,List.map_nil,List.length_cons,List.length_nil,Nat.reduceAdd,Nat.reduceSub,List.replicate_succ,List.replicate_zero,List.cons_append,List.nil_append,tG]
 refine FWp.of_awp ?_
 refine zJ (stop 2) trivial trivial trivial trivial ?_
 refine AWp.weak (A0r.opens ((fun t f=>[f,f,f,f,f,f,t,f,f,f,f,f,f,f,f,f,f,f,f,f,f,f,f,f,f,f,f,f,f,f,f]) true false) 1 (by first | omega | simp)) ?_
 simp only [A3s,B1r,List.length_cons,List.length_nil,List.length_append,Nat.reduceAdd,List.cons_append,List.nil_append]
 refine zR trivial trivial trivial ?_
 refine AWp.loopS (α:=Nat) 31 (fun k=>[(1,.c (.fn 40 [.tree (.rptr [.int .i64 (n:Int),.slice (A0b es)])])),(2,.c (.ptr 0 0)),(6,.c (.slice (A0q (A3f p k)) (.chain 1))),(11,.c (.int .i64 (n:Int))),(12,.c (.int .i64 (k:Int)))]) (fun k=>[.box [.int .i64 (n:Int),.slice (A0b es) .none],.chain (A3f p k).length 1]) (fun k=>k≤n) (fun k=>n-k) (0) (hk:=A0r.headL 2 31 [1,2,6,11,12] (zV3 @A0o @B3T @A0m)) (h0:=?_) (round:=fun k hI=>?_)
 ·exact Nat.zero_le _
 ·have hk2:k≤n:=hI
  clear hI
  by_cases hkl:k<n
  ·have hkI:(k:Int)<(n:Int):=by omega
   have hkk:=fun H=>hk H k hkl
   have hlk:=hfl k
   have hp1:=B2K (p:=p) (k:=k)
   have hp0:=B2L (p:=p) (k:=k)
   clear hk hfl
   cases hpk:p k with
   | true=>
    have hs1:=hp1 hpk
    rw [hpk] at hkk
    generalize hS1:A3f p (k+1)=S1 at*
    generalize A3f p k=S0 at*
    have hln:S1.length=S0.length+1:=by rw [hs1]; simp
    refine zJc trivial (zc @hkI (zc @A0l (zc @A1Z trivial))) trivial (zc @hkk trivial) @A1P ?_
    rw [←hs1]
    refine ⟨k+1,A0r.headF 2 31 [1,2,6,11,12] (zc @hS1 (zc @hln trivial)) (zV3 @A0o @B3T @A0m),?_,?_⟩
    ·exact hkl
    ·omega
   | false=>
    have hs0:=hp0 hpk
    rw [hpk] at hkk
    generalize hS1:A3f p (k+1)=S1 at*
    generalize A3f p k=S0 at*
    refine zJ trivial (zc @hkI trivial) trivial (zc @hkk trivial) trivial ?_
    refine ⟨k+1,A0r.headF 2 31 [1,2,6,11,12] (zc @hS1 (zc @hs0 trivial)) (zV3 @A0o @B3T @A0m),?_,?_⟩
    ·exact hkl
    ·omega
  ·have hnl: ¬(k:Int)<(n:Int):=by omega
   have ek:k=n:=by omega
   rw [ek]
   rw [ek] at hnl
   clear hk hfl
   generalize A3f p n=S0 at*
   have hfr:=hall S0
   rw [List.all_eq_true] at hfr
   refine zR (zc @hnl trivial) trivial trivial ?_
   simp [B7U,B4z,Blk.cells,ty,Try.results39,A05,A08,toT,A69,A0a,Tree.flat,A00,A0j]
   rw [if_pos hfr]; rfl
theorem B88 {n:Nat} {es:List E} (r:Int) (d:List Int) (h12:n≤12) (p:Nat→Bool) (hk: ∀(H:List Blk) (v:Nat),v<n→ACallH Try.prog 45 H [.c (.int .i64 (v:Int)),.c (.rptr [.int .i64 (n:Int),.slice (A0b es)]),.c (.rptr [.int .i64 r]),.c (.rptr [.slice (A0q d)])] H (.tup [.c (.bool (p v)),.c (.int .i64 0)])):
  ACallX Try.prog 39 [] [ofT (tG ⟨(n:Int),es⟩),ofT (.t (.fn 45 [.rptr [.int .i64 (n:Int),.slice (A0b es)],.rptr [.int .i64 r],.rptr [.slice (A0q d)]]))] (.tup [A00 (A3f p n),A0j 0]):=by
 have hfl:=fun k=>A7f p k
 have hz:A3f p 0=[]:=rfl
 have hall: ∀l:List Int,(A0q l).all A2U=true:=fun l=>by rw [List.all_eq_true]; intro r hr; obtain ⟨x,_,rfl⟩:=List.mem_map.1 hr; rfl
 refine ACallX.of_body Try.func39 rfl (by kernel_rfl) (by simp [isMap]) ?_
 simp only [entry,Try.ntmps39,ofT,A2G,A0s,List.map_cons,List.map_nil,List.length_cons,List.length_nil,Nat.reduceAdd,Nat.reduceSub,List.replicate_succ,List.replicate_zero,List.cons_append,List.nil_append,tG]
 refine FWp.of_awp ?_
 refine zJ (stop 2) trivial trivial trivial trivial ?_
 refine AWp.weak (A0r.opens ((fun t f=>[f,f,f,f,f,f,t,f,f,f,f,f,f,f,f,f,f,f,f,f,f,f,f,f,f,f,f,f,f,f,f]) true false) 1 (by first | omega | simp)) ?_
 simp only [A3s,B1r,List.length_cons,List.length_nil,List.length_append,Nat.reduceAdd,List.cons_append,List.nil_append]
 refine zR trivial trivial trivial ?_
 refine AWp.loopS (α:=Nat) 31 (fun k=>[(1,.c (.fn 45 [.tree (.rptr [.int .i64 (n:Int),.slice (A0b es)]),.tree (.rptr [.int .i64 r]),.tree (.rptr [.slice (A0q d)])])),(2,.c (.ptr 0 0)),(6,.c (.slice (A0q (A3f p k)) (.chain 1))),(11,.c (.int .i64 (n:Int))),(12,.c (.int .i64 (k:Int)))]) (fun k=>[.box [.int .i64 (n:Int),.slice (A0b es) .none],.chain (A3f p k).length 1]) (fun k=>k≤n) (fun k=>n-k) (0) (hk:=A0r.headL 2 31 [1,2,6,11,12] (zV3 @A0o @B3T @A0m)) (h0:=?_) (round:=fun k hI=>?_)
 ·exact Nat.zero_le _
 ·have hk2:k≤n:=hI
  clear hI
  by_cases hkl:k<n
  ·have hkI:(k:Int)<(n:Int):=by omega
   have hkk:=fun H=>hk H k hkl
   have hlk:=hfl k
   have hp1:=B2K (p:=p) (k:=k)
   have hp0:=B2L (p:=p) (k:=k)
   clear hk hfl
   cases hpk:p k with
   | true=>
    have hs1:=hp1 hpk
    rw [hpk] at hkk
    generalize hS1:A3f p (k+1)=S1 at*
    generalize A3f p k=S0 at*
    have hln:S1.length=S0.length+1:=by rw [hs1]; simp
    refine zJc trivial (zc @hkI (zc @A0l (zc @A1Z trivial))) trivial (zc @hkk trivial) @A1P ?_
    rw [←hs1]
    refine ⟨k+1,A0r.headF 2 31 [1,2,6,11,12] (zc @hS1 (zc @hln trivial)) (zV3 @A0o @B3T @A0m),?_,?_⟩
    ·exact hkl
    ·omega
   | false=>
    have hs0:=hp0 hpk
    rw [hpk] at hkk
    generalize hS1:A3f p (k+1)=S1 at*
    generalize A3f p k=S0 at*
    refine zJ trivial (zc @hkI trivial) trivial (zc @hkk trivial) trivial ?_
    refine ⟨k+1,A0r.headF 2 31 [1,2,6,11,12] (zc @hS1 (zc @hs0 trivial)) (zV3 @A0o @B3T @A0m),?_,?_⟩
    ·exact hkl
    ·omega
  ·have hnl: ¬(k:Int)<(n:Int):=by omega
   have ek:k=n:=by omega
   rw [ek]
   rw [ek] at hnl
   clear hk hfl
   generalize A3f p n=S0 at*
   have hfr:=hall S0
   rw [List.all_eq_true] at hfr
   refine zR (zc @hnl trivial) trivial trivial ?_
   simp [B7U,B4z,Blk.cells,ty,Try.results39,A05,A08,toT,A69,A0a,Tree.flat,A00,A0j]
   rw [if_pos hfr]; rfl
theorem B3U {n:Nat} {es:List E} (hl:es.length≤40) (hs:A02 ⟨(n:Int),es⟩=0→Sm5 n es) (hj:A02 ⟨(n:Int),es⟩=0) (h6: ¬6<sizeE es-n+1) {v:Nat} (hv:v<n):
  ACall Try.prog 40 [A0j v,.t (.rptr [.int .i64 (n:Int),.slice (A0b es)])] (.tup [A0G (wvP n es v),A0j 0]):=by
 have hW:=A8T hl hs v
 have hg:A3t n es v=(A1V n es v,0):=by unfold A3t; rw [if_neg (by rw [B7K hj hv]; simp),if_neg h6]; rfl
 have hw:A3u n es v=(wgt n es v,0):=by unfold A3u; rw [hg,if_neg (by simp)]; rfl
 rw [hw] at hW
 have hp:wvP n es v=decide (wgt n es v>0):=rfl
 rw [hp]
 clear hg hw hp hs
 generalize wgt n es v=w at*
 refine ACall.of_body Try.func40 rfl (by kernel_rfl) ?_
 simp only [entry,Try.ntmps40,A0j]
 refine zU ?_
 repeat' ((fail_if_success (with_reducible refine AWp.atSeq 99 ?_));(fail_if_success (with_reducible refine AWp.atLast 99 ?_));first|((first|(refine zT ?_;intro K' hK')|(refine zG ?_ ?_<;>(try refine zH ?_)<;>intro hguard<;>(try exact zX)<;>try intro K' hK'))<;>((try simp+contextual only [go_sem,tG]);(repeat' first|(with_reducible refine hK' _ _ ?_;clear hK' K')|(with_reducible refine zK hW ?_;try simp+contextual only [go_sem,tG])|exact zY|with_reducible refine And.intro ?_ ?_|(with_reducible intro hpath;try exact zP)|(refine hK' _ _ ?_;clear hK' K')|fail);try refine zS ?_))|(refine zE ?_;refine hK _ _ ?_;clear hK K)|(refine zN ?_;try refine zS ?_)|refine zA ?_|(refine zB ?_;intro K hK)|(refine zC ?_ ?_<;>(try refine zH ?_)<;>intro hcond<;>try exact zX)|fail)
 simp [A0J,A0I,Blk.cells,ty,Try.results40,A05,A08,toT,A0e,A0c,A0d,A0a,A0G,A0j]
theorem A46 {n:Nat} {es:List E} (hl:es.length≤40) (hs:A02 ⟨(n:Int),es⟩=0→Sm5 n es) (hG:A02 ⟨(n:Int),es⟩=0→sizeE es-n+1≤6):ACall Try.prog 19 [tG ⟨(n:Int),es⟩] (.tup [A00 (A6J n es).1,A0j (A6J n es).2]):=by
 have hJ:=B0X ⟨(n:Int),es⟩ hl
 by_cases hj:A02 ⟨(n:Int),es⟩=0
 ·have h6: ¬6<sizeE es-n+1:=by have:=hG hj; omega
  have e:A6J n es=(A3f (wvP n es) n,0):=by unfold A6J; rw [if_neg (by omega),if_neg h6]
  rw [e]
  have hX:=B87 (n:=n) (es:=es) (by have:=(hs hj).n5; omega) (wvP n es) (fun H v hv=>(B3U hl hs hj h6 hv).h (H:=H) (args:=[.c (.int .i64 (v:Int)),.c (.rptr [.int .i64 (n:Int),.slice (A0b es)])]) rfl)
  have hF:ACallH Try.prog 39 [.box [.int .i64 (n:Int),.slice (A0b es) .none]] [.agg [.int .i64 (n:Int),.slice (A0b es) .none],.c (.fn 40 [.ptr 0 0])] [.box [.int .i64 (n:Int),.slice (A0b es) .none]] (.tup [.c (.slice (A0q (A3f (wvP n es) n)) .none),.c (.int .i64 0)]):=
   ACallX.h0 (ts:=[tG ⟨(n:Int),es⟩,.t (.fn 40 [.rptr [.int .i64 (n:Int),.slice (A0b es)]])]) hX (by with_unfolding_all rfl)
  rw [hj] at hJ
  clear hX hs hG
  generalize A3f (wvP n es) n=L at*
  refine ACall.of_body Try.func19 rfl (by kernel_rfl) ?_
  simp only [entry,Try.ntmps19,tG]
  refine zU ?_
  refine zJ trivial trivial (zc hJ trivial) (zc hF trivial) trivial ?_
  simp [A0J,A0I,Blk.cells,ty,Try.results19,A05,A08,toT,A0e,A0c,A0d,A0a,A0j,A00]
 ·have e:A6J n es=([],A02 ⟨(n:Int),es⟩):=by unfold A6J; rw [if_pos hj]
  rw [e]
  clear hs hG
  generalize A02 ⟨(n:Int),es⟩=er at*
  refine ACall.of_body Try.func19 rfl (by kernel_rfl) ?_
  simp only [entry,Try.ntmps19,tG,A0j]
  refine zU ?_
  refine zR (zc @hj trivial) (zc hJ trivial) trivial ?_
  simp [A0J,A0I,Blk.cells,ty,Try.results19,A05,A08,toT,A0e,A0c,A0d,A0a,A0j,A00,A0q]
def B7p (n:Nat) (es:List E) (d:List Int):Bool:=B5r (mulE es) n 3000 d (List.replicate n false)
def rkC (n:Nat) (es:List E) (d:List Int) (r:Nat):Bool:=((List.range r).all fun k=>(B5s n k).all fun l=>B7p n es (B0K d l))&&(((B5s n r).any fun l=> !B7p n es (B0K d l))||decide (sumD d n<r))
theorem B7q {n:Nat} {es:List E} (g:Gok n es) (hn:n≤4) (hs:sizeE es≤20) {d:List Int} (hd:d.length=n) (hb:bndL 20 d):B7p n es d=B8P n es d:=by
 have h1:=g.h1
 have hc:(n:Int)*(n*(n*(20+20)))≤2560:=by
  have h2:(n:Int)*(20+20)≤4*40:=by omega
  have h3:(n:Int)*(n*(20+20))≤4*160:=Int.mul_le_mul (by omega) h2 (Int.mul_nonneg (by omega) (by decide)) (by decide)
  have h4:(n:Int)*(n*(n*(20+20)))≤4*640:=Int.mul_le_mul (by omega) (by omega) (Int.mul_nonneg (by omega) (Int.mul_nonneg (by omega) (by decide))) (by decide)
  omega
 rw [Bool.eq_iff_iff,A9L]
 exact B6W g.hM (by omega) hd (U:=20) (N:=20) (by decide) (by decide) (fun v _=>(hb v).2) (fun v _=>(hb v).1) (fun v _=>Int.le_trans (A3l g.hE v) hs) (by omega)
theorem B95 {n:Nat} {es:List E} (g:Gok n es) (hn:n≤4) (hs:sizeE es≤20) {d:List Int} (hd:d.length=n) (hb:bndL 8 d) {r:Nat} (hr:r≤8) (h:rkC n es d r=true):rkD n (mulE es) (fun v=>d.getD v 0)=(r:Int)-1:=by
 have h1:=g.h1
 obtain ⟨m,rfl⟩: ∃m,n=m+1:=⟨n-1,by omega⟩
 have hw: ∀k,k≤8→ ∀l,l∈B5s (m+1) k→B7p (m+1) es (B0K d l)=B8P (m+1) es (B0K d l):=fun k hk l hl=>B7q g hn hs (by rw [A9F]; exact hd) (A03 (B2J hb (C:=8) fun v=>by have:=B5M hl v; omega) (by decide))
 unfold rkC at h
 simp only [Bool.and_eq_true,Bool.or_eq_true,List.all_eq_true,List.any_eq_true,decide_eq_true_eq,Bool.not_eq_true'] at h
 obtain ⟨q1,q2⟩:=h
 refine B9O g.hM (by omega) hd (fun k hk=> ?_) ?_
 ·rw [B2I,List.find?_eq_none]
  intro l hl
  have:=q1 k (List.mem_range.2 hk) l hl
  rw [hw k (by omega) l hl] at this
  unfold B86
  rw [this]; simp
 ·rcases q2 with ⟨l,hl,q⟩ | q
  ·left
   rw [B2I,List.find?_isSome]
   refine ⟨l,hl,?_⟩
   rw [hw r hr l hl] at q
   unfold B86
   rw [q]; rfl
  ·right; exact q
def B7M (n:Nat) (es:List E) (v:Nat) (rs:List Int):Bool:=(List.range rs.length).all fun k=>decide (-1≤rs.getD k 0∧rs.getD k 0≤7)&&rkC n es (A4N n v (k:Int)) (rs.getD k 0+1).toNat
theorem A23 {n:Nat} {es:List E} (g:Gok n es) (hn:n≤4) (hs:sizeE es≤20) {v:Nat} (hv:v<n) {rs:List Int} (hl:rs.length≤8) (h:B7M n es v rs=true):A1b n es v rs.length=rs:=by
 unfold B7M at h
 simp only [List.all_eq_true,List.mem_range,Bool.and_eq_true,decide_eq_true_eq] at h
 apply List.ext_getElem
 ·rw [A4O]
 ·intro k h1 h2
  obtain ⟨q1,q2⟩:=h k h2
  have:=A8O (n:=n) (es:=es) (v:=v) h2
  rw [List.getElem?_eq_getElem h1] at this
  rw [Option.some.inj this]
  have hr:=B95 g hn hs (A9N _ _ _) (A9O hv (by omega)) (by omega) q2
  unfold rkT
  rw [hr,←A1U h2]; omega
theorem A7g {p q:Nat→Bool}: ∀{n:Nat},(∀k,k<n→p k=q k)→A3f p n=A3f q n
 | 0,_=>rfl
 | n+1,h=>by
  unfold A3f
  rw [h n (by omega),A7g fun k hk=>h k (by omega)]
theorem A8h {n:Nat} {es:List E} {v N:Int} (hv:A8P ⟨(n:Int),es⟩ v=0) (hN:0≤N∧N≤12):A5a n es v N=(A1b n es v.toNat (N.toNat+1),0):=by
 unfold A5a; rw [if_neg (by omega),if_neg (by omega)]
theorem A9U {n:Nat} {es:List E} {v:Int} (hv:A8P ⟨(n:Int),es⟩ v=0) (hG:sizeE es-n+1≤6):A3t n es v=(A1V n es v.toNat,0):=by
 unfold A3t; rw [if_neg (by omega),if_neg (by omega)]
theorem B3V {n:Nat} {es:List E} {v:Int} (hv:A8P ⟨(n:Int),es⟩ v=0) (hG:sizeE es-n+1≤6):A3u n es v=(wgt n es v.toNat,0):=by
 unfold A3u; rw [A9U hv hG,if_neg (by simp)]
theorem A8i {n:Nat} {es:List E} (hj:A02 ⟨(n:Int),es⟩=0) (hG:sizeE es-n+1≤6):A6J n es=(A3f (wvP n es) n,0):=by
 unfold A6J; rw [if_neg (by omega),if_neg (by omega)]
def B1g:List E:=[⟨0,1,1⟩,⟨0,2,1⟩,⟨1,2,1⟩]
def B3W:List E:=[⟨0,1,2⟩,⟨1,2,2⟩]
def B5Z:List E:=[⟨0,1,4⟩]
theorem B2c:Sm5 3 B1g:=⟨B2H (by decide) (by decide+kernel) (by decide+kernel),by decide,by decide+kernel⟩
theorem B5R:Sm5 3 B3W:=⟨B2H (by decide) (by decide+kernel) (by decide+kernel),by decide,by decide+kernel⟩
theorem B89:Sm5 2 B5Z:=⟨B2H (by decide) (by decide+kernel) (by decide+kernel),by decide,by decide+kernel⟩
theorem B96:A1b 3 B1g 2 4=[0,0,1,2]:=A23 (rs:=[0,0,1,2]) B2c.g (by decide) (by decide) (by decide) (by decide) (by decide+kernel)
theorem B97 (v:Nat) (hv:v<3):A1b 3 B1g v 2=[0,0]:=by
 have:v=0∨v=1∨v=2:=by omega
 rcases this with rfl | rfl | rfl
 ·exact A23 (rs:=[0,0]) B2c.g (by decide) (by decide) (by decide) (by decide) (by decide+kernel)
 ·exact A23 (rs:=[0,0]) B2c.g (by decide) (by decide) (by decide) (by decide) (by decide+kernel)
 ·exact A23 (rs:=[0,0]) B2c.g (by decide) (by decide) (by decide) (by decide) (by decide+kernel)
theorem B98 (v:Nat) (hv:v<3):A1b 3 B3W v 4=[0,0,1,1]:=by
 have:v=0∨v=1∨v=2:=by omega
 rcases this with rfl | rfl | rfl
 ·exact A23 (rs:=[0,0,1,1]) B5R.g (by decide) (by decide) (by decide) (by decide) (by decide+kernel)
 ·exact A23 (rs:=[0,0,1,1]) B5R.g (by decide) (by decide) (by decide) (by decide) (by decide+kernel)
 ·exact A23 (rs:=[0,0,1,1]) B5R.g (by decide) (by decide) (by decide) (by decide) (by decide+kernel)
theorem B7N:A1b 2 B5Z 0 6=[0,0,0,0,1,2]:=A23 (rs:=[0,0,0,0,1,2]) B89.g (by decide) (by decide) (by decide) (by decide) (by decide+kernel)
theorem B2M (v:Nat) (hv:v<3):A1V 3 B1g v=[1]:=by
 have:A1V 3 B1g v=A3B (A1b 3 B1g v 2) 2:=rfl
 rw [this,B97 v hv]; decide
theorem B7r (v:Nat) (hv:v<3):A1V 3 B3W v=[1,3]:=by
 have:A1V 3 B3W v=A3B (A1b 3 B3W v 4) 4:=rfl
 rw [this,B98 v hv]; decide
theorem B7s:A1V 2 B5Z 0=[1,2,3]:=by
 have:A1V 2 B5Z 0=A3B (A1b 2 B5Z 0 6) 6:=rfl
 rw [this,B7N]; decide
theorem B8A (v:Nat) (hv:v<3):wgt 3 B1g v=0:=by unfold wgt; rw [B2M v hv]; decide
theorem B5S (v:Nat) (hv:v<3):wgt 3 B3W v=1:=by unfold wgt; rw [B7r v hv]; decide
theorem B8B:A3f (wvP 3 B1g) 3=[]:=by
 rw [A7g (q:=fun _=>false) fun k hk=>by unfold wvP; rw [B8A k hk]; decide]; rfl
theorem B8C:A3f (wvP 3 B3W) 3=[0,1,2]:=by
 rw [A7g (q:=fun _=>true) fun k hk=>by unfold wvP; rw [B5S k hk]; decide]; rfl
theorem B7t:ACall Try.prog 28 [] (tG ⟨3,B1g⟩):=by
 refine ACall.of_body Try.func28 rfl (by kernel_rfl) ?_
 simp only [entry,Try.ntmps28]
 refine zU ?_
 refine zR trivial trivial trivial ?_
 simp [A0J,A0I,Blk.cells,ty,Try.results28,A05,A08,toT,A0e,A0c,A0d,A0a,tG,B1g,A0b,B9c]
 rfl
theorem B7u:ACall Try.prog 29 [] (tG ⟨3,B3W⟩):=by
 refine ACall.of_body Try.func29 rfl (by kernel_rfl) ?_
 simp only [entry,Try.ntmps29]
 refine zU ?_
 refine zR trivial trivial trivial ?_
 simp [A0J,A0I,Blk.cells,ty,Try.results29,A05,A08,toT,A0e,A0c,A0d,A0a,tG,B3W,A0b,B9c]
 rfl
theorem A8U:ACall Try.prog 10 [] (A0G true):=by
 have hT:=B7t
 have hD:=B7u
 have c1:=A8g (n:=3) (es:=B1g) (by decide) (fun _=>B2c) 2 3 (by decide)
 have c2:=A9T (n:=3) (es:=B1g) (by decide) (fun _=>B2c) 1
 have c3:=A46 (n:=3) (es:=B1g) (by decide) (fun _=>B2c) (fun _=>by decide)
 have c4:=A9T (n:=2) (es:=B5Z) (by decide) (fun _=>B89) 0
 have c5:=A8g (n:=2) (es:=B5Z) (by decide) (fun _=>B89) 0 5 (by decide)
 have c6:=A46 (n:=3) (es:=B3W) (by decide) (fun _=>B5R) (fun _=>by decide)
 have c7:=A8T (n:=3) (es:=B3W) (by decide) (fun _=>B5R) 0
 rw [A8h (by decide+kernel) (by decide)] at c1
 rw [A9U (by decide+kernel) (by decide)] at c2
 rw [A8i (by decide+kernel) (by decide),B8B] at c3
 rw [A9U (by decide+kernel) (by decide)] at c4
 rw [A8h (by decide+kernel) (by decide)] at c5
 rw [A8i (by decide+kernel) (by decide),B8C] at c6
 rw [B3V (by decide+kernel) (by decide)] at c7
 have t1:A1b 3 B1g (2:Int).toNat ((3:Int).toNat+1)=[0,0,1,2]:=B96
 have t2:A1V 3 B1g (1:Int).toNat=[1]:=B2M 1 (by decide)
 have t4:A1V 2 B5Z (0:Int).toNat=[1,2,3]:=B7s
 have t5:A1b 2 B5Z (0:Int).toNat ((5:Int).toNat+1)=[0,0,0,0,1,2]:=B7N
 have t7:wgt 3 B3W (0:Int).toNat=1:=B5S 0 (by decide)
 rw [t1] at c1
 rw [t2] at c2
 rw [t4] at c4
 rw [t5] at c5
 rw [t7] at c7
 clear t1 t2 t4 t5 t7
 have d1:=A4D [0,0,1,2] [0,0,1,2] (by decide) (by decide)
 have d2:=A4D [1] [1] (by decide) (by decide)
 have d3:=A4D [1,2,3] [1,2,3] (by decide) (by decide)
 have d4:=A4D [0,0,0,0,1,2] [0,0,0,0,1,2] (by decide) (by decide)
 have d5:=A4D [0,1,2] [0,1,2] (by decide) (by decide)
 rw [decide_eq_true rfl] at d1 d2 d3 d4 d5
 have f4:A0b B5Z=[[.int .i64 0,.int .i64 1,.int .i64 4]]:=rfl
 unfold tG at hT hD c1 c2 c3 c4 c5 c6 c7
 have n3:((3:Nat):Int)=3:=rfl
 have n2:((2:Nat):Int)=2:=rfl
 simp only [n3,n2,f4] at c1 c2 c3 c4 c5 c6 c7
 generalize A0b B1g=e1 at*
 generalize A0b B3W=e2 at*
 simp only [A00,A0q,List.map_cons,List.map_nil] at c1 c2 c3 c4 c5 c6 d1 d2 d3 d4 d5
 refine ACall.of_body Try.func10 rfl (by kernel_rfl) ?_
 simp only [entry,Try.ntmps10]
 refine zU ?_
 repeat' (first|((first|(refine zT ?_;intro K' hK')|(refine zG ?_ ?_<;>(try refine zH ?_)<;>intro hguard<;>(try exact zX)<;>try intro K' hK'))<;>((try simp+contextual only [go_sem,chunks,List.range,List.range.loop]);(repeat' first|(with_reducible refine hK' _ _ ?_;clear hK' K')|((with_reducible first|refine zK hT ?_|refine zK hD ?_|refine zK c1 ?_|refine zK c2 ?_|refine zK c3 ?_|refine zK c4 ?_|refine zK c5 ?_|refine zK c6 ?_|refine zK c7 ?_|refine zK d1 ?_|refine zK d2 ?_|refine zK d3 ?_|refine zK d4 ?_|refine zK d5 ?_);try simp+contextual only [go_sem,chunks,List.range,List.range.loop])|exact zY|with_reducible refine And.intro ?_ ?_|(with_reducible intro hpath;try exact zP)|(refine hK' _ _ ?_;clear hK' K')|fail);try refine zS ?_))|(refine zE ?_;refine hK _ _ ?_;clear hK K)|(refine zN ?_;try refine zS ?_)|refine zA ?_|(refine zB ?_;intro K hK)|(refine zC ?_ ?_<;>(try refine zH ?_)<;>intro hcond<;>try exact zX)|fail)
 simp [A0J,A0I,Blk.cells,ty,Try.results10,A05,A08,toT,A0e,A0c,A0d,A0a,A0G]
noncomputable def B5T (n:Nat) (es:List E) (d:List Int) (r:Int) (v:Nat):Bool:=B8P n es (B0K d (A4N n v (r+1)))
noncomputable def rkL (n:Nat) (es:List E) (d:List Int):Int:=rkD n (mulE es) fun v=>d.getD v 0
noncomputable def B6a (n:Nat) (es:List E) (d:List Int):List Int×Int:=if B0b ⟨(n:Int),es⟩ d≠0 then ([],B0b ⟨(n:Int),es⟩ d) else if rkL n es d<0 then ([],0) else (A3f (B5T n es d (rkL n es d)) n,0)
structure Dv5 (n:Nat) (es:List E) (d:List Int):Prop where
 s:Sm5 n es
 dl:d.length=n
 db:bndL 100 d
 dd:sumD d n≤5
theorem Dv5.rk {n:Nat} {es:List E} {d:List Int} (h:Dv5 n es d): -1≤rkL n es d∧rkL n es d≤5:=by
 refine ⟨A42 _,?_⟩
 by_cases h0:0≤rkL n es d
 ·have:=B24 h.s.g.hM (by have:=h.s.g.h1; omega) h0
  have h2:=h.dd
  have e:sumD d n=sumR (fun v=>d.getD v 0) n:=rfl
  show rkD n (mulE es) (fun v=>d.getD v 0)≤5
  omega
 ·omega
theorem B8D {n:Nat} {es:List E} {d:List Int} (h:Dv5 n es d) {r:Int} (hr:0≤r∧r≤5) {v:Nat} (hv:v<n):
  ACall Try.prog 45 [A0j v,.t (.rptr [.int .i64 (n:Int),.slice (A0b es)]),.t (.rptr [.int .i64 r]),.t (.rptr [.slice (A0q d)])] (.tup [A0G (B5T n es d r v),A0j 0]):=by
 have h5:=h.s.n5
 have h1:=h.s.g.h1
 have hS:=B58 n v (r+1) h1 (by omega) hv (by omega)
 have ht:(List.replicate n (0:Int)).set v (r+1)=A4N n v (r+1):=rfl
 rw [ht] at hS
 have htb:bndL 6 (A4N n v (r+1)):=A9O hv (by omega)
 have hmb:bndL 106 (B0K d (A4N n v (r+1))):=B2J h.db htb
 have hml:(B0K d (A4N n v (r+1))).length=n:=by rw [A9F]; exact h.dl
 have hSub:=B9z d (A4N n v (r+1)) n h1 (by omega) h.dl (A9N _ _ _) (A03 h.db (by decide)) (A03 htb (by decide)) (fun u hu=>by
  have q1:=h.db u
  have q2:=htb u
  omega)
 rw [B5E h.dl] at hSub
 obtain ⟨b,R,S,w1,-,-,-,-,-,-,-,hW,-⟩:=A8f h.s.g (h.s.rk.dok hml (A03 hmb (by decide)))
 have hb:B5T n es d r v=b:=by
  unfold B5T
  rw [Bool.eq_iff_iff,w1]
  exact A9L
 rw [hb]
 clear hb w1 hmb htb h hml
 generalize B0K d (A4N n v (r+1))=m at*
 generalize A4N n v (r+1)=t at*
 refine ACall.of_body Try.func45 rfl (by kernel_rfl) ?_
 simp only [entry,Try.ntmps45,A0j]
 refine zU ?_
 repeat' ((fail_if_success (with_reducible refine AWp.atSeq 99 ?_));(fail_if_success (with_reducible refine AWp.atLast 99 ?_));first|((first|(refine zT ?_;intro K' hK')|(refine zG ?_ ?_<;>(try refine zH ?_)<;>intro hguard<;>(try exact zX)<;>try intro K' hK'))<;>((try simp+contextual only [go_sem,tG]);(repeat' first|(with_reducible refine hK' _ _ ?_;clear hK' K')|((with_reducible first|refine zK hS ?_|refine zK hSub ?_|refine zK hW ?_);try simp+contextual only [go_sem,tG])|exact zY|with_reducible refine And.intro ?_ ?_|(with_reducible intro hpath;try exact zP)|(refine hK' _ _ ?_;clear hK' K')|fail);try refine zS ?_))|(refine zE ?_;refine hK _ _ ?_;clear hK K)|(refine zN ?_;try refine zS ?_)|refine zA ?_|(refine zB ?_;intro K hK)|(refine zC ?_ ?_<;>(try refine zH ?_)<;>intro hcond<;>try exact zX)|fail)
 simp [A0J,A0I,Blk.cells,ty,Try.results45,A05,A08,toT,A0e,A0c,A0d,A0a,A0G,A0j]
theorem B1a {n:Nat} {es:List E} (hl:es.length≤40) {d:List Int} (hdl:d.length<2^40) (hD:B0b ⟨(n:Int),es⟩ d=0→Dv5 n es d):ACall Try.prog 24 [tG ⟨(n:Int),es⟩,A00 d] (.tup [A00 (B6a n es d).1,A0j (B6a n es d).2]):=by
 by_cases he:B0b ⟨(n:Int),es⟩ d=0
 ·have h:=hD he
  have hR:=B0W h.s.rk d h.dl (A03 h.db (by decide))
  have hrk:=h.rk
  have er:rkD n (mulE es) (fun v=>d.getD v 0)=rkL n es d:=rfl
  rw [er] at hR
  by_cases hneg:rkL n es d<0
  ·have e:B6a n es d=([],0):=by unfold B6a; rw [if_neg (by omega),if_pos hneg]
   rw [e]
   generalize rkL n es d=r at*
   refine ACall.of_body Try.func24 rfl (by kernel_rfl) ?_
   simp only [entry,Try.ntmps24,tG,A00]
   refine zU ?_
   refine zR (zc @hneg trivial) (zc hR trivial) trivial ?_
   simp [A0J,A0I,Blk.cells,ty,Try.results24,A05,A08,toT,A0e,A0c,A0d,A0a,A0j,A00,A0q]
  ·have e:B6a n es d=(A3f (B5T n es d (rkL n es d)) n,0):=by unfold B6a; rw [if_neg (by omega),if_neg hneg]
   rw [e]
   have h5:=h.s.n5
   have hX:=B88 (n:=n) (es:=es) (rkL n es d) d (by omega) (B5T n es d (rkL n es d)) (fun H v hv=>(B8D h (by omega) hv).h (H:=H) (args:=[.c (.int .i64 (v:Int)),.c (.rptr [.int .i64 (n:Int),.slice (A0b es)]),.c (.rptr [.int .i64 (rkL n es d)]),.c (.rptr [.slice (A0q d)])]) rfl)
   have hF: ∀rr:Int,rkL n es d=rr→ACallH Try.prog 39 [.box [.int .i64 (n:Int),.slice (A0b es) .none],.box [.slice (A0q d) .none],.box [.int .i64 rr]] [.agg [.int .i64 (n:Int),.slice (A0b es) .none],.c (.fn 45 [.ptr 0 0,.ptr 2 0,.ptr 1 0])] [.box [.int .i64 (n:Int),.slice (A0b es) .none],.box [.slice (A0q d) .none],.box [.int .i64 rr]] (.tup [.c (.slice (A0q (A3f (B5T n es d (rkL n es d)) n)) .none),.c (.int .i64 0)]):=fun rr hrr=>by
    rw [←hrr]
    exact ACallX.h0 (ts:=[tG ⟨(n:Int),es⟩,.t (.fn 45 [.rptr [.int .i64 (n:Int),.slice (A0b es)],.rptr [.int .i64 (rkL n es d)],.rptr [.slice (A0q d)]])]) hX (by with_unfolding_all rfl)
   have hF2:=hF _ rfl
   clear hX hF e
   generalize A3f (B5T n es d (rkL n es d)) n=L at*
   generalize rkL n es d=r at*
   refine ACall.of_body Try.func24 rfl (by kernel_rfl) ?_
   simp only [entry,Try.ntmps24,tG,A00]
   refine zU ?_
   refine zJ trivial (zc @hneg trivial) (zc hR trivial) (zc hF2 trivial) trivial ?_
   simp [A0J,A0I,Blk.cells,ty,Try.results24,A05,A08,toT,A0e,A0c,A0d,A0a,A0j,A00]
 ·have e:B6a n es d=([],B0b ⟨(n:Int),es⟩ d):=by unfold B6a; rw [if_pos he]
  rw [e]
  have hR:=B7k ⟨(n:Int),es⟩ d hl hdl he
  clear hD e
  generalize B0b ⟨(n:Int),es⟩ d=er at*
  refine ACall.of_body Try.func24 rfl (by kernel_rfl) ?_
  simp only [entry,Try.ntmps24,tG,A00]
  refine zU ?_
  refine zR (zc @he trivial) (zc hR trivial) trivial ?_
  simp [A0J,A0I,Blk.cells,ty,Try.results24,A05,A08,toT,A0e,A0c,A0d,A0a,A0j,A00,A0q]
end Go.Proofs.Ytdhfgihnoimoaaa
